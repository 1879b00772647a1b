/- operand. -/
import Derived.Test.YtfkjokbhnblndaaGreatDoorPgH
namespace Go.Proofs.YtfkjokbhnblndaaGreatDoor
open Go.RowKit
set_option linter.unusedVariables false
set_option linter.unusedSimpArgs false

theorem insE_in {n k : Int} (h : inB n 0 (k - 1) = true) : insE n k = 0 := by simp [insE, h]
theorem insE_out {n k : Int} (h : inB n 0 (k - 1) = false) : insE n k = 2 := by simp [insE, h]
theorem inB_nat {n : Int} {k : Nat} (h : inB n 0 ((k : Int) - 1) = true) : ∃ m : Nat, n = m ∧ m < k := by
  simp [inB] at h
  exact ⟨n.toNat, by omega, by omega⟩

set_option maxRecDepth 100000 in
set_option maxHeartbeats 2000000 in
theorem operand_0 (p : Pg) (A : PA) (f : Fn) (ca : Option Addr) (cc : Nat) (kd n : Int) (w : World) (h : CkAt w p A f ca) (hn : i64 n) :
    Gives Tryz.prog 111 #[CKV p A f ca cc, .agg #[.int .i64 0, .int .i64 kd], .int .i64 n] w (.int .i64 (ckOpd p f ⟨0, kd⟩ n)) := by
  unfold Gives
  obtain ⟨fa, fc, oa, oc, va, vc⟩ := A
  dsimp only [CKV]
  obtain ⟨hn1, hn2⟩ := hn
  obtain ⟨hr1, hr2⟩ := h.regs
  have hlc := h.fwf.len
  have hlf := h.pg.wf.nf
  have hlo := h.pg.wf.no
  have hlv := h.pg.wf.nv
  by_cases hb : n = 0
  · have HR := Lib.hid (show ckOpd p f ⟨0, kd⟩ n = 0 by simp [ckOpd, hb])
    generalize ckOpd p f ⟨0, kd⟩ n = res at *
    subst hb
    clear h
    obtain ⟨wk, hwk⟩ : ∃ W, W = ((w.alloc (.cells #[.slice fa p.fs.length fc, .slice oa p.os.length oc, .slice va p.vs.length vc, sV f.name, .int .i64 f.params, .int .i64 f.regs, .int .i64 f.prio, .bool f.cl, .slice ca f.code.length cc] 142)).alloc (.cells #[.int .i64 0, .int .i64 kd] 170)) := ⟨_, rfl⟩
    have BX := Lib.hid (show ∀ W, Ext wk W → (W.cell? ⟨w.heap.size, 0, none⟩ = some (.slice fa p.fs.length fc) ∧ W.cell? ⟨w.heap.size, 1, none⟩ = some (.slice oa p.os.length oc) ∧ W.cell? ⟨w.heap.size, 2, none⟩ = some (.slice va p.vs.length vc) ∧ W.cell? ⟨w.heap.size, 3, none⟩ = some (sV f.name) ∧ W.cell? ⟨w.heap.size, 4, none⟩ = some (.int .i64 f.params) ∧ W.cell? ⟨w.heap.size, 5, none⟩ = some (.int .i64 f.regs) ∧ W.cell? ⟨w.heap.size, 6, none⟩ = some (.int .i64 f.prio) ∧ W.cell? ⟨w.heap.size, 7, none⟩ = some (.bool f.cl) ∧ W.cell? ⟨w.heap.size, 8, none⟩ = some (.slice ca f.code.length cc) ∧ W.cell? ⟨w.heap.size + 1, 0, none⟩ = some (.int .i64 0) ∧ W.cell? ⟨w.heap.size + 1, 1, none⟩ = some (.int .i64 kd)) from fun W hW => by
      subst hwk
      have h0 := alloc_here w (.cells #[.slice fa p.fs.length fc, .slice oa p.os.length oc, .slice va p.vs.length vc, sV f.name, .int .i64 f.params, .int .i64 f.regs, .int .i64 f.prio, .bool f.cl, .slice ca f.code.length cc] 142)
      have h0 := (Below.heap_alloc _ (.cells #[.int .i64 0, .int .i64 kd] 170) _ (lt_of_block h0)).trans h0
      have k0 := (hW.below.block _ (lt_of_block h0)).trans h0
      have h1 := alloc_here (w.alloc (.cells #[.slice fa p.fs.length fc, .slice oa p.os.length oc, .slice va p.vs.length vc, sV f.name, .int .i64 f.params, .int .i64 f.regs, .int .i64 f.prio, .bool f.cl, .slice ca f.code.length cc] 142)) (.cells #[.int .i64 0, .int .i64 kd] 170)
      simp only [World.size_alloc] at h1
      have k1 := (hW.below.block _ (lt_of_block h1)).trans h1
      exact ⟨cell_of k0 rfl, cell_of k0 rfl, cell_of k0 rfl, cell_of k0 rfl, cell_of k0 rfl, cell_of k0 rfl, cell_of k0 rfl, cell_of k0 rfl, cell_of k0 rfl, cell_of k1 rfl, cell_of k1 rfl⟩)
    have HW := Lib.hid (show Ext w wk by rw [hwk]; exact (ext_alloc (ext_alloc (Below.refl _ _) _) _))
    have HE0 := Lib.hid (show Ext wk wk from Below.refl _ _)
    generalize f.name = fnm at *
    generalize f.params = fpa at *
    generalize f.regs = rg at *
    generalize f.prio = fpr at *
    generalize f.cl = fcl at *
    go_enter Tryz.func111, Tryz.ntmps111
    go_wp2
    rw [← hwk]
    clear hwk
    go_ret
    exact ⟨by rw [HR.out]; rfl, HW.out⟩
  · have HR := Lib.hid (show ckOpd p f ⟨0, kd⟩ n = 1 by simp [ckOpd, hb])
    generalize ckOpd p f ⟨0, kd⟩ n = res at *
    have hb1 : (n != 0) = true := by rw [bne_iff_ne]; exact hb
    clear hb
    clear h
    obtain ⟨wk, hwk⟩ : ∃ W, W = ((w.alloc (.cells #[.slice fa p.fs.length fc, .slice oa p.os.length oc, .slice va p.vs.length vc, sV f.name, .int .i64 f.params, .int .i64 f.regs, .int .i64 f.prio, .bool f.cl, .slice ca f.code.length cc] 142)).alloc (.cells #[.int .i64 0, .int .i64 kd] 170)) := ⟨_, rfl⟩
    have BX := Lib.hid (show ∀ W, Ext wk W → (W.cell? ⟨w.heap.size, 0, none⟩ = some (.slice fa p.fs.length fc) ∧ W.cell? ⟨w.heap.size, 1, none⟩ = some (.slice oa p.os.length oc) ∧ W.cell? ⟨w.heap.size, 2, none⟩ = some (.slice va p.vs.length vc) ∧ W.cell? ⟨w.heap.size, 3, none⟩ = some (sV f.name) ∧ W.cell? ⟨w.heap.size, 4, none⟩ = some (.int .i64 f.params) ∧ W.cell? ⟨w.heap.size, 5, none⟩ = some (.int .i64 f.regs) ∧ W.cell? ⟨w.heap.size, 6, none⟩ = some (.int .i64 f.prio) ∧ W.cell? ⟨w.heap.size, 7, none⟩ = some (.bool f.cl) ∧ W.cell? ⟨w.heap.size, 8, none⟩ = some (.slice ca f.code.length cc) ∧ W.cell? ⟨w.heap.size + 1, 0, none⟩ = some (.int .i64 0) ∧ W.cell? ⟨w.heap.size + 1, 1, none⟩ = some (.int .i64 kd)) from fun W hW => by
      subst hwk
      have h0 := alloc_here w (.cells #[.slice fa p.fs.length fc, .slice oa p.os.length oc, .slice va p.vs.length vc, sV f.name, .int .i64 f.params, .int .i64 f.regs, .int .i64 f.prio, .bool f.cl, .slice ca f.code.length cc] 142)
      have h0 := (Below.heap_alloc _ (.cells #[.int .i64 0, .int .i64 kd] 170) _ (lt_of_block h0)).trans h0
      have k0 := (hW.below.block _ (lt_of_block h0)).trans h0
      have h1 := alloc_here (w.alloc (.cells #[.slice fa p.fs.length fc, .slice oa p.os.length oc, .slice va p.vs.length vc, sV f.name, .int .i64 f.params, .int .i64 f.regs, .int .i64 f.prio, .bool f.cl, .slice ca f.code.length cc] 142)) (.cells #[.int .i64 0, .int .i64 kd] 170)
      simp only [World.size_alloc] at h1
      have k1 := (hW.below.block _ (lt_of_block h1)).trans h1
      exact ⟨cell_of k0 rfl, cell_of k0 rfl, cell_of k0 rfl, cell_of k0 rfl, cell_of k0 rfl, cell_of k0 rfl, cell_of k0 rfl, cell_of k0 rfl, cell_of k0 rfl, cell_of k1 rfl, cell_of k1 rfl⟩)
    have HW := Lib.hid (show Ext w wk by rw [hwk]; exact (ext_alloc (ext_alloc (Below.refl _ _) _) _))
    have HE0 := Lib.hid (show Ext wk wk from Below.refl _ _)
    generalize f.name = fnm at *
    generalize f.params = fpa at *
    generalize f.regs = rg at *
    generalize f.prio = fpr at *
    generalize f.cl = fcl at *
    go_enter Tryz.func111, Tryz.ntmps111
    go_wp2
    rw [← hwk]
    clear hwk
    go_ret
    exact ⟨by rw [HR.out]; rfl, HW.out⟩

set_option maxRecDepth 100000 in
set_option maxHeartbeats 2000000 in
theorem operand_1 (p : Pg) (A : PA) (f : Fn) (ca : Option Addr) (cc : Nat) (kd n : Int) (w : World) (h : CkAt w p A f ca) (hn : i64 n) :
    Gives Tryz.prog 111 #[CKV p A f ca cc, .agg #[.int .i64 1, .int .i64 kd], .int .i64 n] w (.int .i64 (ckOpd p f ⟨1, kd⟩ n)) := by
  unfold Gives
  obtain ⟨fa, fc, oa, oc, va, vc⟩ := A
  dsimp only [CKV]
  obtain ⟨hn1, hn2⟩ := hn
  obtain ⟨hr1, hr2⟩ := h.regs
  have hlc := h.fwf.len
  have hlf := h.pg.wf.nf
  have hlo := h.pg.wf.no
  have hlv := h.pg.wf.nv
  cases hb : inB n (-1099511627776) 1099511627776 with
  | true =>
    have HR := Lib.hid (show ckOpd p f ⟨1, kd⟩ n = 0 by simp [ckOpd, hb])
    generalize ckOpd p f ⟨1, kd⟩ n = res at *
    have K := fun W => within_any n (-1099511627776) 1099511627776 W
    simp only [hb] at K
    have K := Lib.hid K
    clear h hb
    obtain ⟨wk, hwk⟩ : ∃ W, W = ((w.alloc (.cells #[.slice fa p.fs.length fc, .slice oa p.os.length oc, .slice va p.vs.length vc, sV f.name, .int .i64 f.params, .int .i64 f.regs, .int .i64 f.prio, .bool f.cl, .slice ca f.code.length cc] 142)).alloc (.cells #[.int .i64 1, .int .i64 kd] 170)) := ⟨_, rfl⟩
    have BX := Lib.hid (show ∀ W, Ext wk W → (W.cell? ⟨w.heap.size, 0, none⟩ = some (.slice fa p.fs.length fc) ∧ W.cell? ⟨w.heap.size, 1, none⟩ = some (.slice oa p.os.length oc) ∧ W.cell? ⟨w.heap.size, 2, none⟩ = some (.slice va p.vs.length vc) ∧ W.cell? ⟨w.heap.size, 3, none⟩ = some (sV f.name) ∧ W.cell? ⟨w.heap.size, 4, none⟩ = some (.int .i64 f.params) ∧ W.cell? ⟨w.heap.size, 5, none⟩ = some (.int .i64 f.regs) ∧ W.cell? ⟨w.heap.size, 6, none⟩ = some (.int .i64 f.prio) ∧ W.cell? ⟨w.heap.size, 7, none⟩ = some (.bool f.cl) ∧ W.cell? ⟨w.heap.size, 8, none⟩ = some (.slice ca f.code.length cc) ∧ W.cell? ⟨w.heap.size + 1, 0, none⟩ = some (.int .i64 1) ∧ W.cell? ⟨w.heap.size + 1, 1, none⟩ = some (.int .i64 kd)) from fun W hW => by
      subst hwk
      have h0 := alloc_here w (.cells #[.slice fa p.fs.length fc, .slice oa p.os.length oc, .slice va p.vs.length vc, sV f.name, .int .i64 f.params, .int .i64 f.regs, .int .i64 f.prio, .bool f.cl, .slice ca f.code.length cc] 142)
      have h0 := (Below.heap_alloc _ (.cells #[.int .i64 1, .int .i64 kd] 170) _ (lt_of_block h0)).trans h0
      have k0 := (hW.below.block _ (lt_of_block h0)).trans h0
      have h1 := alloc_here (w.alloc (.cells #[.slice fa p.fs.length fc, .slice oa p.os.length oc, .slice va p.vs.length vc, sV f.name, .int .i64 f.params, .int .i64 f.regs, .int .i64 f.prio, .bool f.cl, .slice ca f.code.length cc] 142)) (.cells #[.int .i64 1, .int .i64 kd] 170)
      simp only [World.size_alloc] at h1
      have k1 := (hW.below.block _ (lt_of_block h1)).trans h1
      exact ⟨cell_of k0 rfl, cell_of k0 rfl, cell_of k0 rfl, cell_of k0 rfl, cell_of k0 rfl, cell_of k0 rfl, cell_of k0 rfl, cell_of k0 rfl, cell_of k0 rfl, cell_of k1 rfl, cell_of k1 rfl⟩)
    have HW := Lib.hid (show Ext w wk by rw [hwk]; exact (ext_alloc (ext_alloc (Below.refl _ _) _) _))
    have HE0 := Lib.hid (show Ext wk wk from Below.refl _ _)
    generalize f.name = fnm at *
    generalize f.params = fpa at *
    generalize f.regs = rg at *
    generalize f.prio = fpr at *
    generalize f.cl = fcl at *
    go_enter Tryz.func111, Tryz.ntmps111
    go_wp2_with fail
    rw [← hwk]
    clear hwk
    refine (K.out _).mono ?_
    rintro _ v1 ⟨rfl, hv1⟩
    rw [hv1]
    clear hv1 v1
    obtain ⟨d0_0, d0_1, d0_2, d0_3, d0_4, d0_5, d0_6, d0_7, d0_8, d1_0, d1_1⟩ := BX.out _ HE0.out
    go_wp2
    go_ret
    exact ⟨by rw [HR.out]; rfl, Ext.trans HW.out HE0.out⟩
  | false =>
    have HR := Lib.hid (show ckOpd p f ⟨1, kd⟩ n = 2 by simp [ckOpd, hb])
    generalize ckOpd p f ⟨1, kd⟩ n = res at *
    have K := fun W => within_any n (-1099511627776) 1099511627776 W
    simp only [hb] at K
    have K := Lib.hid K
    clear h hb
    obtain ⟨wk, hwk⟩ : ∃ W, W = ((w.alloc (.cells #[.slice fa p.fs.length fc, .slice oa p.os.length oc, .slice va p.vs.length vc, sV f.name, .int .i64 f.params, .int .i64 f.regs, .int .i64 f.prio, .bool f.cl, .slice ca f.code.length cc] 142)).alloc (.cells #[.int .i64 1, .int .i64 kd] 170)) := ⟨_, rfl⟩
    have BX := Lib.hid (show ∀ W, Ext wk W → (W.cell? ⟨w.heap.size, 0, none⟩ = some (.slice fa p.fs.length fc) ∧ W.cell? ⟨w.heap.size, 1, none⟩ = some (.slice oa p.os.length oc) ∧ W.cell? ⟨w.heap.size, 2, none⟩ = some (.slice va p.vs.length vc) ∧ W.cell? ⟨w.heap.size, 3, none⟩ = some (sV f.name) ∧ W.cell? ⟨w.heap.size, 4, none⟩ = some (.int .i64 f.params) ∧ W.cell? ⟨w.heap.size, 5, none⟩ = some (.int .i64 f.regs) ∧ W.cell? ⟨w.heap.size, 6, none⟩ = some (.int .i64 f.prio) ∧ W.cell? ⟨w.heap.size, 7, none⟩ = some (.bool f.cl) ∧ W.cell? ⟨w.heap.size, 8, none⟩ = some (.slice ca f.code.length cc) ∧ W.cell? ⟨w.heap.size + 1, 0, none⟩ = some (.int .i64 1) ∧ W.cell? ⟨w.heap.size + 1, 1, none⟩ = some (.int .i64 kd)) from fun W hW => by
      subst hwk
      have h0 := alloc_here w (.cells #[.slice fa p.fs.length fc, .slice oa p.os.length oc, .slice va p.vs.length vc, sV f.name, .int .i64 f.params, .int .i64 f.regs, .int .i64 f.prio, .bool f.cl, .slice ca f.code.length cc] 142)
      have h0 := (Below.heap_alloc _ (.cells #[.int .i64 1, .int .i64 kd] 170) _ (lt_of_block h0)).trans h0
      have k0 := (hW.below.block _ (lt_of_block h0)).trans h0
      have h1 := alloc_here (w.alloc (.cells #[.slice fa p.fs.length fc, .slice oa p.os.length oc, .slice va p.vs.length vc, sV f.name, .int .i64 f.params, .int .i64 f.regs, .int .i64 f.prio, .bool f.cl, .slice ca f.code.length cc] 142)) (.cells #[.int .i64 1, .int .i64 kd] 170)
      simp only [World.size_alloc] at h1
      have k1 := (hW.below.block _ (lt_of_block h1)).trans h1
      exact ⟨cell_of k0 rfl, cell_of k0 rfl, cell_of k0 rfl, cell_of k0 rfl, cell_of k0 rfl, cell_of k0 rfl, cell_of k0 rfl, cell_of k0 rfl, cell_of k0 rfl, cell_of k1 rfl, cell_of k1 rfl⟩)
    have HW := Lib.hid (show Ext w wk by rw [hwk]; exact (ext_alloc (ext_alloc (Below.refl _ _) _) _))
    have HE0 := Lib.hid (show Ext wk wk from Below.refl _ _)
    generalize f.name = fnm at *
    generalize f.params = fpa at *
    generalize f.regs = rg at *
    generalize f.prio = fpr at *
    generalize f.cl = fcl at *
    go_enter Tryz.func111, Tryz.ntmps111
    go_wp2_with fail
    rw [← hwk]
    clear hwk
    refine (K.out _).mono ?_
    rintro _ v1 ⟨rfl, hv1⟩
    rw [hv1]
    clear hv1 v1
    obtain ⟨d0_0, d0_1, d0_2, d0_3, d0_4, d0_5, d0_6, d0_7, d0_8, d1_0, d1_1⟩ := BX.out _ HE0.out
    go_wp2
    go_ret
    exact ⟨by rw [HR.out]; rfl, Ext.trans HW.out HE0.out⟩

set_option maxRecDepth 100000 in
set_option maxHeartbeats 2000000 in
theorem operand_2 (p : Pg) (A : PA) (f : Fn) (ca : Option Addr) (cc : Nat) (kd n : Int) (w : World) (h : CkAt w p A f ca) (hn : i64 n) :
    Gives Tryz.prog 111 #[CKV p A f ca cc, .agg #[.int .i64 2, .int .i64 kd], .int .i64 n] w (.int .i64 (ckOpd p f ⟨2, kd⟩ n)) := by
  unfold Gives
  obtain ⟨fa, fc, oa, oc, va, vc⟩ := A
  dsimp only [CKV]
  obtain ⟨hn1, hn2⟩ := hn
  obtain ⟨hr1, hr2⟩ := h.regs
  have hlc := h.fwf.len
  have hlf := h.pg.wf.nf
  have hlo := h.pg.wf.no
  have hlv := h.pg.wf.nv
  cases hb : inB n 0 (100 - 1) with
  | true =>
    have HR := Lib.hid (show ckOpd p f ⟨2, kd⟩ n = 0 by simp [ckOpd]; simpa using hb)

    generalize ckOpd p f ⟨2, kd⟩ n = res at *
    have K := fun W => inside_any n 100 W (by omega)
    simp only [insE_in hb] at K
    have K := Lib.hid K
    clear h hb
    obtain ⟨wk, hwk⟩ : ∃ W, W = ((w.alloc (.cells #[.slice fa p.fs.length fc, .slice oa p.os.length oc, .slice va p.vs.length vc, sV f.name, .int .i64 f.params, .int .i64 f.regs, .int .i64 f.prio, .bool f.cl, .slice ca f.code.length cc] 142)).alloc (.cells #[.int .i64 2, .int .i64 kd] 170)) := ⟨_, rfl⟩
    have BX := Lib.hid (show ∀ W, Ext wk W → (W.cell? ⟨w.heap.size, 0, none⟩ = some (.slice fa p.fs.length fc) ∧ W.cell? ⟨w.heap.size, 1, none⟩ = some (.slice oa p.os.length oc) ∧ W.cell? ⟨w.heap.size, 2, none⟩ = some (.slice va p.vs.length vc) ∧ W.cell? ⟨w.heap.size, 3, none⟩ = some (sV f.name) ∧ W.cell? ⟨w.heap.size, 4, none⟩ = some (.int .i64 f.params) ∧ W.cell? ⟨w.heap.size, 5, none⟩ = some (.int .i64 f.regs) ∧ W.cell? ⟨w.heap.size, 6, none⟩ = some (.int .i64 f.prio) ∧ W.cell? ⟨w.heap.size, 7, none⟩ = some (.bool f.cl) ∧ W.cell? ⟨w.heap.size, 8, none⟩ = some (.slice ca f.code.length cc) ∧ W.cell? ⟨w.heap.size + 1, 0, none⟩ = some (.int .i64 2) ∧ W.cell? ⟨w.heap.size + 1, 1, none⟩ = some (.int .i64 kd)) from fun W hW => by
      subst hwk
      have h0 := alloc_here w (.cells #[.slice fa p.fs.length fc, .slice oa p.os.length oc, .slice va p.vs.length vc, sV f.name, .int .i64 f.params, .int .i64 f.regs, .int .i64 f.prio, .bool f.cl, .slice ca f.code.length cc] 142)
      have h0 := (Below.heap_alloc _ (.cells #[.int .i64 2, .int .i64 kd] 170) _ (lt_of_block h0)).trans h0
      have k0 := (hW.below.block _ (lt_of_block h0)).trans h0
      have h1 := alloc_here (w.alloc (.cells #[.slice fa p.fs.length fc, .slice oa p.os.length oc, .slice va p.vs.length vc, sV f.name, .int .i64 f.params, .int .i64 f.regs, .int .i64 f.prio, .bool f.cl, .slice ca f.code.length cc] 142)) (.cells #[.int .i64 2, .int .i64 kd] 170)
      simp only [World.size_alloc] at h1
      have k1 := (hW.below.block _ (lt_of_block h1)).trans h1
      exact ⟨cell_of k0 rfl, cell_of k0 rfl, cell_of k0 rfl, cell_of k0 rfl, cell_of k0 rfl, cell_of k0 rfl, cell_of k0 rfl, cell_of k0 rfl, cell_of k0 rfl, cell_of k1 rfl, cell_of k1 rfl⟩)
    have HW := Lib.hid (show Ext w wk by rw [hwk]; exact (ext_alloc (ext_alloc (Below.refl _ _) _) _))
    have HE0 := Lib.hid (show Ext wk wk from Below.refl _ _)
    generalize f.name = fnm at *
    generalize f.params = fpa at *
    generalize f.regs = rg at *
    generalize f.prio = fpr at *
    generalize f.cl = fcl at *
    go_enter Tryz.func111, Tryz.ntmps111
    go_wp2_with fail
    rw [← hwk]
    clear hwk
    refine (K.out _).mono ?_
    rintro _ v1 ⟨rfl, hv1⟩
    rw [hv1]
    clear hv1 v1
    obtain ⟨d0_0, d0_1, d0_2, d0_3, d0_4, d0_5, d0_6, d0_7, d0_8, d1_0, d1_1⟩ := BX.out _ HE0.out
    go_wp2
    go_ret
    exact ⟨by rw [HR.out]; rfl, Ext.trans HW.out HE0.out⟩
  | false =>
    have HR := Lib.hid (show ckOpd p f ⟨2, kd⟩ n = 2 by simp [ckOpd]; simpa using hb)

    generalize ckOpd p f ⟨2, kd⟩ n = res at *
    have K := fun W => inside_any n 100 W (by omega)
    simp only [insE_out hb] at K
    have K := Lib.hid K
    clear h hb
    obtain ⟨wk, hwk⟩ : ∃ W, W = ((w.alloc (.cells #[.slice fa p.fs.length fc, .slice oa p.os.length oc, .slice va p.vs.length vc, sV f.name, .int .i64 f.params, .int .i64 f.regs, .int .i64 f.prio, .bool f.cl, .slice ca f.code.length cc] 142)).alloc (.cells #[.int .i64 2, .int .i64 kd] 170)) := ⟨_, rfl⟩
    have BX := Lib.hid (show ∀ W, Ext wk W → (W.cell? ⟨w.heap.size, 0, none⟩ = some (.slice fa p.fs.length fc) ∧ W.cell? ⟨w.heap.size, 1, none⟩ = some (.slice oa p.os.length oc) ∧ W.cell? ⟨w.heap.size, 2, none⟩ = some (.slice va p.vs.length vc) ∧ W.cell? ⟨w.heap.size, 3, none⟩ = some (sV f.name) ∧ W.cell? ⟨w.heap.size, 4, none⟩ = some (.int .i64 f.params) ∧ W.cell? ⟨w.heap.size, 5, none⟩ = some (.int .i64 f.regs) ∧ W.cell? ⟨w.heap.size, 6, none⟩ = some (.int .i64 f.prio) ∧ W.cell? ⟨w.heap.size, 7, none⟩ = some (.bool f.cl) ∧ W.cell? ⟨w.heap.size, 8, none⟩ = some (.slice ca f.code.length cc) ∧ W.cell? ⟨w.heap.size + 1, 0, none⟩ = some (.int .i64 2) ∧ W.cell? ⟨w.heap.size + 1, 1, none⟩ = some (.int .i64 kd)) from fun W hW => by
      subst hwk
      have h0 := alloc_here w (.cells #[.slice fa p.fs.length fc, .slice oa p.os.length oc, .slice va p.vs.length vc, sV f.name, .int .i64 f.params, .int .i64 f.regs, .int .i64 f.prio, .bool f.cl, .slice ca f.code.length cc] 142)
      have h0 := (Below.heap_alloc _ (.cells #[.int .i64 2, .int .i64 kd] 170) _ (lt_of_block h0)).trans h0
      have k0 := (hW.below.block _ (lt_of_block h0)).trans h0
      have h1 := alloc_here (w.alloc (.cells #[.slice fa p.fs.length fc, .slice oa p.os.length oc, .slice va p.vs.length vc, sV f.name, .int .i64 f.params, .int .i64 f.regs, .int .i64 f.prio, .bool f.cl, .slice ca f.code.length cc] 142)) (.cells #[.int .i64 2, .int .i64 kd] 170)
      simp only [World.size_alloc] at h1
      have k1 := (hW.below.block _ (lt_of_block h1)).trans h1
      exact ⟨cell_of k0 rfl, cell_of k0 rfl, cell_of k0 rfl, cell_of k0 rfl, cell_of k0 rfl, cell_of k0 rfl, cell_of k0 rfl, cell_of k0 rfl, cell_of k0 rfl, cell_of k1 rfl, cell_of k1 rfl⟩)
    have HW := Lib.hid (show Ext w wk by rw [hwk]; exact (ext_alloc (ext_alloc (Below.refl _ _) _) _))
    have HE0 := Lib.hid (show Ext wk wk from Below.refl _ _)
    generalize f.name = fnm at *
    generalize f.params = fpa at *
    generalize f.regs = rg at *
    generalize f.prio = fpr at *
    generalize f.cl = fcl at *
    go_enter Tryz.func111, Tryz.ntmps111
    go_wp2_with fail
    rw [← hwk]
    clear hwk
    refine (K.out _).mono ?_
    rintro _ v1 ⟨rfl, hv1⟩
    rw [hv1]
    clear hv1 v1
    obtain ⟨d0_0, d0_1, d0_2, d0_3, d0_4, d0_5, d0_6, d0_7, d0_8, d1_0, d1_1⟩ := BX.out _ HE0.out
    go_wp2
    go_ret
    exact ⟨by rw [HR.out]; rfl, Ext.trans HW.out HE0.out⟩

set_option maxRecDepth 100000 in
set_option maxHeartbeats 2000000 in
theorem operand_3 (p : Pg) (A : PA) (f : Fn) (ca : Option Addr) (cc : Nat) (kd n : Int) (w : World) (h : CkAt w p A f ca) (hn : i64 n) :
    Gives Tryz.prog 111 #[CKV p A f ca cc, .agg #[.int .i64 3, .int .i64 kd], .int .i64 n] w (.int .i64 (ckOpd p f ⟨3, kd⟩ n)) := by
  unfold Gives
  obtain ⟨fa, fc, oa, oc, va, vc⟩ := A
  dsimp only [CKV]
  obtain ⟨hn1, hn2⟩ := hn
  obtain ⟨hr1, hr2⟩ := h.regs
  have hlc := h.fwf.len
  have hlf := h.pg.wf.nf
  have hlo := h.pg.wf.no
  have hlv := h.pg.wf.nv
  cases hb : inB n 0 (f.regs - 1) with
  | true =>
    have HR := Lib.hid (show ckOpd p f ⟨3, kd⟩ n = 0 by simp [ckOpd, hb])

    generalize ckOpd p f ⟨3, kd⟩ n = res at *
    have K := fun W => inside_any n f.regs W (by omega)
    simp only [insE_in hb] at K
    have K := Lib.hid K
    clear h hb
    obtain ⟨wk, hwk⟩ : ∃ W, W = ((w.alloc (.cells #[.slice fa p.fs.length fc, .slice oa p.os.length oc, .slice va p.vs.length vc, sV f.name, .int .i64 f.params, .int .i64 f.regs, .int .i64 f.prio, .bool f.cl, .slice ca f.code.length cc] 142)).alloc (.cells #[.int .i64 3, .int .i64 kd] 170)) := ⟨_, rfl⟩
    have BX := Lib.hid (show ∀ W, Ext wk W → (W.cell? ⟨w.heap.size, 0, none⟩ = some (.slice fa p.fs.length fc) ∧ W.cell? ⟨w.heap.size, 1, none⟩ = some (.slice oa p.os.length oc) ∧ W.cell? ⟨w.heap.size, 2, none⟩ = some (.slice va p.vs.length vc) ∧ W.cell? ⟨w.heap.size, 3, none⟩ = some (sV f.name) ∧ W.cell? ⟨w.heap.size, 4, none⟩ = some (.int .i64 f.params) ∧ W.cell? ⟨w.heap.size, 5, none⟩ = some (.int .i64 f.regs) ∧ W.cell? ⟨w.heap.size, 6, none⟩ = some (.int .i64 f.prio) ∧ W.cell? ⟨w.heap.size, 7, none⟩ = some (.bool f.cl) ∧ W.cell? ⟨w.heap.size, 8, none⟩ = some (.slice ca f.code.length cc) ∧ W.cell? ⟨w.heap.size + 1, 0, none⟩ = some (.int .i64 3) ∧ W.cell? ⟨w.heap.size + 1, 1, none⟩ = some (.int .i64 kd)) from fun W hW => by
      subst hwk
      have h0 := alloc_here w (.cells #[.slice fa p.fs.length fc, .slice oa p.os.length oc, .slice va p.vs.length vc, sV f.name, .int .i64 f.params, .int .i64 f.regs, .int .i64 f.prio, .bool f.cl, .slice ca f.code.length cc] 142)
      have h0 := (Below.heap_alloc _ (.cells #[.int .i64 3, .int .i64 kd] 170) _ (lt_of_block h0)).trans h0
      have k0 := (hW.below.block _ (lt_of_block h0)).trans h0
      have h1 := alloc_here (w.alloc (.cells #[.slice fa p.fs.length fc, .slice oa p.os.length oc, .slice va p.vs.length vc, sV f.name, .int .i64 f.params, .int .i64 f.regs, .int .i64 f.prio, .bool f.cl, .slice ca f.code.length cc] 142)) (.cells #[.int .i64 3, .int .i64 kd] 170)
      simp only [World.size_alloc] at h1
      have k1 := (hW.below.block _ (lt_of_block h1)).trans h1
      exact ⟨cell_of k0 rfl, cell_of k0 rfl, cell_of k0 rfl, cell_of k0 rfl, cell_of k0 rfl, cell_of k0 rfl, cell_of k0 rfl, cell_of k0 rfl, cell_of k0 rfl, cell_of k1 rfl, cell_of k1 rfl⟩)
    have HW := Lib.hid (show Ext w wk by rw [hwk]; exact (ext_alloc (ext_alloc (Below.refl _ _) _) _))
    have HE0 := Lib.hid (show Ext wk wk from Below.refl _ _)
    generalize f.name = fnm at *
    generalize f.params = fpa at *
    generalize f.regs = rg at *
    generalize f.prio = fpr at *
    generalize f.cl = fcl at *
    go_enter Tryz.func111, Tryz.ntmps111
    go_wp2_with fail
    rw [← hwk]
    clear hwk
    refine (K.out _).mono ?_
    rintro _ v1 ⟨rfl, hv1⟩
    rw [hv1]
    clear hv1 v1
    obtain ⟨d0_0, d0_1, d0_2, d0_3, d0_4, d0_5, d0_6, d0_7, d0_8, d1_0, d1_1⟩ := BX.out _ HE0.out
    go_wp2
    go_ret
    exact ⟨by rw [HR.out]; rfl, Ext.trans HW.out HE0.out⟩
  | false =>
    have HR := Lib.hid (show ckOpd p f ⟨3, kd⟩ n = 2 by simp [ckOpd, hb])

    generalize ckOpd p f ⟨3, kd⟩ n = res at *
    have K := fun W => inside_any n f.regs W (by omega)
    simp only [insE_out hb] at K
    have K := Lib.hid K
    clear h hb
    obtain ⟨wk, hwk⟩ : ∃ W, W = ((w.alloc (.cells #[.slice fa p.fs.length fc, .slice oa p.os.length oc, .slice va p.vs.length vc, sV f.name, .int .i64 f.params, .int .i64 f.regs, .int .i64 f.prio, .bool f.cl, .slice ca f.code.length cc] 142)).alloc (.cells #[.int .i64 3, .int .i64 kd] 170)) := ⟨_, rfl⟩
    have BX := Lib.hid (show ∀ W, Ext wk W → (W.cell? ⟨w.heap.size, 0, none⟩ = some (.slice fa p.fs.length fc) ∧ W.cell? ⟨w.heap.size, 1, none⟩ = some (.slice oa p.os.length oc) ∧ W.cell? ⟨w.heap.size, 2, none⟩ = some (.slice va p.vs.length vc) ∧ W.cell? ⟨w.heap.size, 3, none⟩ = some (sV f.name) ∧ W.cell? ⟨w.heap.size, 4, none⟩ = some (.int .i64 f.params) ∧ W.cell? ⟨w.heap.size, 5, none⟩ = some (.int .i64 f.regs) ∧ W.cell? ⟨w.heap.size, 6, none⟩ = some (.int .i64 f.prio) ∧ W.cell? ⟨w.heap.size, 7, none⟩ = some (.bool f.cl) ∧ W.cell? ⟨w.heap.size, 8, none⟩ = some (.slice ca f.code.length cc) ∧ W.cell? ⟨w.heap.size + 1, 0, none⟩ = some (.int .i64 3) ∧ W.cell? ⟨w.heap.size + 1, 1, none⟩ = some (.int .i64 kd)) from fun W hW => by
      subst hwk
      have h0 := alloc_here w (.cells #[.slice fa p.fs.length fc, .slice oa p.os.length oc, .slice va p.vs.length vc, sV f.name, .int .i64 f.params, .int .i64 f.regs, .int .i64 f.prio, .bool f.cl, .slice ca f.code.length cc] 142)
      have h0 := (Below.heap_alloc _ (.cells #[.int .i64 3, .int .i64 kd] 170) _ (lt_of_block h0)).trans h0
      have k0 := (hW.below.block _ (lt_of_block h0)).trans h0
      have h1 := alloc_here (w.alloc (.cells #[.slice fa p.fs.length fc, .slice oa p.os.length oc, .slice va p.vs.length vc, sV f.name, .int .i64 f.params, .int .i64 f.regs, .int .i64 f.prio, .bool f.cl, .slice ca f.code.length cc] 142)) (.cells #[.int .i64 3, .int .i64 kd] 170)
      simp only [World.size_alloc] at h1
      have k1 := (hW.below.block _ (lt_of_block h1)).trans h1
      exact ⟨cell_of k0 rfl, cell_of k0 rfl, cell_of k0 rfl, cell_of k0 rfl, cell_of k0 rfl, cell_of k0 rfl, cell_of k0 rfl, cell_of k0 rfl, cell_of k0 rfl, cell_of k1 rfl, cell_of k1 rfl⟩)
    have HW := Lib.hid (show Ext w wk by rw [hwk]; exact (ext_alloc (ext_alloc (Below.refl _ _) _) _))
    have HE0 := Lib.hid (show Ext wk wk from Below.refl _ _)
    generalize f.name = fnm at *
    generalize f.params = fpa at *
    generalize f.regs = rg at *
    generalize f.prio = fpr at *
    generalize f.cl = fcl at *
    go_enter Tryz.func111, Tryz.ntmps111
    go_wp2_with fail
    rw [← hwk]
    clear hwk
    refine (K.out _).mono ?_
    rintro _ v1 ⟨rfl, hv1⟩
    rw [hv1]
    clear hv1 v1
    obtain ⟨d0_0, d0_1, d0_2, d0_3, d0_4, d0_5, d0_6, d0_7, d0_8, d1_0, d1_1⟩ := BX.out _ HE0.out
    go_wp2
    go_ret
    exact ⟨by rw [HR.out]; rfl, Ext.trans HW.out HE0.out⟩

set_option maxRecDepth 100000 in
set_option maxHeartbeats 2000000 in
theorem operand_4 (p : Pg) (A : PA) (f : Fn) (ca : Option Addr) (cc : Nat) (kd n : Int) (w : World) (h : CkAt w p A f ca) (hn : i64 n) :
    Gives Tryz.prog 111 #[CKV p A f ca cc, .agg #[.int .i64 4, .int .i64 kd], .int .i64 n] w (.int .i64 (ckOpd p f ⟨4, kd⟩ n)) := by
  unfold Gives
  obtain ⟨fa, fc, oa, oc, va, vc⟩ := A
  dsimp only [CKV]
  obtain ⟨hn1, hn2⟩ := hn
  obtain ⟨hr1, hr2⟩ := h.regs
  have hlc := h.fwf.len
  have hlf := h.pg.wf.nf
  have hlo := h.pg.wf.no
  have hlv := h.pg.wf.nv
  cases hb : inB n 0 (f.regs - 1) with
  | true =>
    have HR := Lib.hid (show ckOpd p f ⟨4, kd⟩ n = 0 by simp [ckOpd, hb])

    generalize ckOpd p f ⟨4, kd⟩ n = res at *
    have K := fun W => inside_any n f.regs W (by omega)
    simp only [insE_in hb] at K
    have K := Lib.hid K
    clear h hb
    obtain ⟨wk, hwk⟩ : ∃ W, W = ((w.alloc (.cells #[.slice fa p.fs.length fc, .slice oa p.os.length oc, .slice va p.vs.length vc, sV f.name, .int .i64 f.params, .int .i64 f.regs, .int .i64 f.prio, .bool f.cl, .slice ca f.code.length cc] 142)).alloc (.cells #[.int .i64 4, .int .i64 kd] 170)) := ⟨_, rfl⟩
    have BX := Lib.hid (show ∀ W, Ext wk W → (W.cell? ⟨w.heap.size, 0, none⟩ = some (.slice fa p.fs.length fc) ∧ W.cell? ⟨w.heap.size, 1, none⟩ = some (.slice oa p.os.length oc) ∧ W.cell? ⟨w.heap.size, 2, none⟩ = some (.slice va p.vs.length vc) ∧ W.cell? ⟨w.heap.size, 3, none⟩ = some (sV f.name) ∧ W.cell? ⟨w.heap.size, 4, none⟩ = some (.int .i64 f.params) ∧ W.cell? ⟨w.heap.size, 5, none⟩ = some (.int .i64 f.regs) ∧ W.cell? ⟨w.heap.size, 6, none⟩ = some (.int .i64 f.prio) ∧ W.cell? ⟨w.heap.size, 7, none⟩ = some (.bool f.cl) ∧ W.cell? ⟨w.heap.size, 8, none⟩ = some (.slice ca f.code.length cc) ∧ W.cell? ⟨w.heap.size + 1, 0, none⟩ = some (.int .i64 4) ∧ W.cell? ⟨w.heap.size + 1, 1, none⟩ = some (.int .i64 kd)) from fun W hW => by
      subst hwk
      have h0 := alloc_here w (.cells #[.slice fa p.fs.length fc, .slice oa p.os.length oc, .slice va p.vs.length vc, sV f.name, .int .i64 f.params, .int .i64 f.regs, .int .i64 f.prio, .bool f.cl, .slice ca f.code.length cc] 142)
      have h0 := (Below.heap_alloc _ (.cells #[.int .i64 4, .int .i64 kd] 170) _ (lt_of_block h0)).trans h0
      have k0 := (hW.below.block _ (lt_of_block h0)).trans h0
      have h1 := alloc_here (w.alloc (.cells #[.slice fa p.fs.length fc, .slice oa p.os.length oc, .slice va p.vs.length vc, sV f.name, .int .i64 f.params, .int .i64 f.regs, .int .i64 f.prio, .bool f.cl, .slice ca f.code.length cc] 142)) (.cells #[.int .i64 4, .int .i64 kd] 170)
      simp only [World.size_alloc] at h1
      have k1 := (hW.below.block _ (lt_of_block h1)).trans h1
      exact ⟨cell_of k0 rfl, cell_of k0 rfl, cell_of k0 rfl, cell_of k0 rfl, cell_of k0 rfl, cell_of k0 rfl, cell_of k0 rfl, cell_of k0 rfl, cell_of k0 rfl, cell_of k1 rfl, cell_of k1 rfl⟩)
    have HW := Lib.hid (show Ext w wk by rw [hwk]; exact (ext_alloc (ext_alloc (Below.refl _ _) _) _))
    have HE0 := Lib.hid (show Ext wk wk from Below.refl _ _)
    generalize f.name = fnm at *
    generalize f.params = fpa at *
    generalize f.regs = rg at *
    generalize f.prio = fpr at *
    generalize f.cl = fcl at *
    go_enter Tryz.func111, Tryz.ntmps111
    go_wp2_with fail
    rw [← hwk]
    clear hwk
    refine (K.out _).mono ?_
    rintro _ v1 ⟨rfl, hv1⟩
    rw [hv1]
    clear hv1 v1
    obtain ⟨d0_0, d0_1, d0_2, d0_3, d0_4, d0_5, d0_6, d0_7, d0_8, d1_0, d1_1⟩ := BX.out _ HE0.out
    go_wp2
    go_ret
    exact ⟨by rw [HR.out]; rfl, Ext.trans HW.out HE0.out⟩
  | false =>
    have HR := Lib.hid (show ckOpd p f ⟨4, kd⟩ n = 2 by simp [ckOpd, hb])

    generalize ckOpd p f ⟨4, kd⟩ n = res at *
    have K := fun W => inside_any n f.regs W (by omega)
    simp only [insE_out hb] at K
    have K := Lib.hid K
    clear h hb
    obtain ⟨wk, hwk⟩ : ∃ W, W = ((w.alloc (.cells #[.slice fa p.fs.length fc, .slice oa p.os.length oc, .slice va p.vs.length vc, sV f.name, .int .i64 f.params, .int .i64 f.regs, .int .i64 f.prio, .bool f.cl, .slice ca f.code.length cc] 142)).alloc (.cells #[.int .i64 4, .int .i64 kd] 170)) := ⟨_, rfl⟩
    have BX := Lib.hid (show ∀ W, Ext wk W → (W.cell? ⟨w.heap.size, 0, none⟩ = some (.slice fa p.fs.length fc) ∧ W.cell? ⟨w.heap.size, 1, none⟩ = some (.slice oa p.os.length oc) ∧ W.cell? ⟨w.heap.size, 2, none⟩ = some (.slice va p.vs.length vc) ∧ W.cell? ⟨w.heap.size, 3, none⟩ = some (sV f.name) ∧ W.cell? ⟨w.heap.size, 4, none⟩ = some (.int .i64 f.params) ∧ W.cell? ⟨w.heap.size, 5, none⟩ = some (.int .i64 f.regs) ∧ W.cell? ⟨w.heap.size, 6, none⟩ = some (.int .i64 f.prio) ∧ W.cell? ⟨w.heap.size, 7, none⟩ = some (.bool f.cl) ∧ W.cell? ⟨w.heap.size, 8, none⟩ = some (.slice ca f.code.length cc) ∧ W.cell? ⟨w.heap.size + 1, 0, none⟩ = some (.int .i64 4) ∧ W.cell? ⟨w.heap.size + 1, 1, none⟩ = some (.int .i64 kd)) from fun W hW => by
      subst hwk
      have h0 := alloc_here w (.cells #[.slice fa p.fs.length fc, .slice oa p.os.length oc, .slice va p.vs.length vc, sV f.name, .int .i64 f.params, .int .i64 f.regs, .int .i64 f.prio, .bool f.cl, .slice ca f.code.length cc] 142)
      have h0 := (Below.heap_alloc _ (.cells #[.int .i64 4, .int .i64 kd] 170) _ (lt_of_block h0)).trans h0
      have k0 := (hW.below.block _ (lt_of_block h0)).trans h0
      have h1 := alloc_here (w.alloc (.cells #[.slice fa p.fs.length fc, .slice oa p.os.length oc, .slice va p.vs.length vc, sV f.name, .int .i64 f.params, .int .i64 f.regs, .int .i64 f.prio, .bool f.cl, .slice ca f.code.length cc] 142)) (.cells #[.int .i64 4, .int .i64 kd] 170)
      simp only [World.size_alloc] at h1
      have k1 := (hW.below.block _ (lt_of_block h1)).trans h1
      exact ⟨cell_of k0 rfl, cell_of k0 rfl, cell_of k0 rfl, cell_of k0 rfl, cell_of k0 rfl, cell_of k0 rfl, cell_of k0 rfl, cell_of k0 rfl, cell_of k0 rfl, cell_of k1 rfl, cell_of k1 rfl⟩)
    have HW := Lib.hid (show Ext w wk by rw [hwk]; exact (ext_alloc (ext_alloc (Below.refl _ _) _) _))
    have HE0 := Lib.hid (show Ext wk wk from Below.refl _ _)
    generalize f.name = fnm at *
    generalize f.params = fpa at *
    generalize f.regs = rg at *
    generalize f.prio = fpr at *
    generalize f.cl = fcl at *
    go_enter Tryz.func111, Tryz.ntmps111
    go_wp2_with fail
    rw [← hwk]
    clear hwk
    refine (K.out _).mono ?_
    rintro _ v1 ⟨rfl, hv1⟩
    rw [hv1]
    clear hv1 v1
    obtain ⟨d0_0, d0_1, d0_2, d0_3, d0_4, d0_5, d0_6, d0_7, d0_8, d1_0, d1_1⟩ := BX.out _ HE0.out
    go_wp2
    go_ret
    exact ⟨by rw [HR.out]; rfl, Ext.trans HW.out HE0.out⟩

set_option maxRecDepth 100000 in
set_option maxHeartbeats 2000000 in
theorem operand_5 (p : Pg) (A : PA) (f : Fn) (ca : Option Addr) (cc : Nat) (kd n : Int) (w : World) (h : CkAt w p A f ca) (hn : i64 n) :
    Gives Tryz.prog 111 #[CKV p A f ca cc, .agg #[.int .i64 5, .int .i64 kd], .int .i64 n] w (.int .i64 (ckOpd p f ⟨5, kd⟩ n)) := by
  unfold Gives
  obtain ⟨fa, fc, oa, oc, va, vc⟩ := A
  dsimp only [CKV]
  obtain ⟨hn1, hn2⟩ := hn
  obtain ⟨hr1, hr2⟩ := h.regs
  have hlc := h.fwf.len
  have hlf := h.pg.wf.nf
  have hlo := h.pg.wf.no
  have hlv := h.pg.wf.nv
  by_cases hmx : n = 9223372036854775807
  · subst hmx
    have hb : inB (wrap64 9223372036854775808) 0 (f.regs + 1 - 1) = false := by rw [show wrap64 9223372036854775808 = -9223372036854775808 from by unfold wrap64; omega]; simp [inB]
    have HR := Lib.hid (show ckOpd p f ⟨5, kd⟩ 9223372036854775807 = 2 by simp [ckOpd, inB]; omega)
    generalize ckOpd p f ⟨5, kd⟩ 9223372036854775807 = res at *
    have K := fun W => inside_any (wrap64 9223372036854775808) (f.regs + 1) W (by omega)
    simp only [insE_out hb] at K
    have K := Lib.hid K
    clear h hb
    obtain ⟨wk, hwk⟩ : ∃ W, W = ((w.alloc (.cells #[.slice fa p.fs.length fc, .slice oa p.os.length oc, .slice va p.vs.length vc, sV f.name, .int .i64 f.params, .int .i64 f.regs, .int .i64 f.prio, .bool f.cl, .slice ca f.code.length cc] 142)).alloc (.cells #[.int .i64 5, .int .i64 kd] 170)) := ⟨_, rfl⟩
    have BX := Lib.hid (show ∀ W, Ext wk W → (W.cell? ⟨w.heap.size, 0, none⟩ = some (.slice fa p.fs.length fc) ∧ W.cell? ⟨w.heap.size, 1, none⟩ = some (.slice oa p.os.length oc) ∧ W.cell? ⟨w.heap.size, 2, none⟩ = some (.slice va p.vs.length vc) ∧ W.cell? ⟨w.heap.size, 3, none⟩ = some (sV f.name) ∧ W.cell? ⟨w.heap.size, 4, none⟩ = some (.int .i64 f.params) ∧ W.cell? ⟨w.heap.size, 5, none⟩ = some (.int .i64 f.regs) ∧ W.cell? ⟨w.heap.size, 6, none⟩ = some (.int .i64 f.prio) ∧ W.cell? ⟨w.heap.size, 7, none⟩ = some (.bool f.cl) ∧ W.cell? ⟨w.heap.size, 8, none⟩ = some (.slice ca f.code.length cc) ∧ W.cell? ⟨w.heap.size + 1, 0, none⟩ = some (.int .i64 5) ∧ W.cell? ⟨w.heap.size + 1, 1, none⟩ = some (.int .i64 kd)) from fun W hW => by
      subst hwk
      have h0 := alloc_here w (.cells #[.slice fa p.fs.length fc, .slice oa p.os.length oc, .slice va p.vs.length vc, sV f.name, .int .i64 f.params, .int .i64 f.regs, .int .i64 f.prio, .bool f.cl, .slice ca f.code.length cc] 142)
      have h0 := (Below.heap_alloc _ (.cells #[.int .i64 5, .int .i64 kd] 170) _ (lt_of_block h0)).trans h0
      have k0 := (hW.below.block _ (lt_of_block h0)).trans h0
      have h1 := alloc_here (w.alloc (.cells #[.slice fa p.fs.length fc, .slice oa p.os.length oc, .slice va p.vs.length vc, sV f.name, .int .i64 f.params, .int .i64 f.regs, .int .i64 f.prio, .bool f.cl, .slice ca f.code.length cc] 142)) (.cells #[.int .i64 5, .int .i64 kd] 170)
      simp only [World.size_alloc] at h1
      have k1 := (hW.below.block _ (lt_of_block h1)).trans h1
      exact ⟨cell_of k0 rfl, cell_of k0 rfl, cell_of k0 rfl, cell_of k0 rfl, cell_of k0 rfl, cell_of k0 rfl, cell_of k0 rfl, cell_of k0 rfl, cell_of k0 rfl, cell_of k1 rfl, cell_of k1 rfl⟩)
    have HW := Lib.hid (show Ext w wk by rw [hwk]; exact (ext_alloc (ext_alloc (Below.refl _ _) _) _))
    have HE0 := Lib.hid (show Ext wk wk from Below.refl _ _)
    generalize f.name = fnm at *
    generalize f.params = fpa at *
    generalize f.regs = rg at *
    generalize f.prio = fpr at *
    generalize f.cl = fcl at *
    go_enter Tryz.func111, Tryz.ntmps111
    go_wp2_with fail
    rw [← hwk]
    clear hwk
    refine (K.out _).mono ?_
    rintro _ v1 ⟨rfl, hv1⟩
    rw [hv1]
    clear hv1 v1
    obtain ⟨d0_0, d0_1, d0_2, d0_3, d0_4, d0_5, d0_6, d0_7, d0_8, d1_0, d1_1⟩ := BX.out _ HE0.out
    go_wp2
    go_ret
    exact ⟨by rw [HR.out]; rfl, Ext.trans HW.out HE0.out⟩
  · have hmx2 : n + 1 ≤ 9223372036854775807 := by omega
    cases hb : inB (n + 1) 0 f.regs with
    | true =>
      have HR := Lib.hid (show ckOpd p f ⟨5, kd⟩ n = 0 by
        have e : inB n (-1) (f.regs - 1) = inB (n + 1) 0 f.regs := by
          simp only [inB, decide_eq_decide]; omega
        simp [ckOpd, e, hb])
      generalize ckOpd p f ⟨5, kd⟩ n = res at *
      have K := fun W => inside_any (n + 1) (f.regs + 1) W (by omega)
      simp only [insE_in (show inB (n + 1) 0 (f.regs + 1 - 1) = true by rw [Int.add_sub_cancel]; exact hb)] at K
      have K := Lib.hid K
      clear h hb
      obtain ⟨wk, hwk⟩ : ∃ W, W = ((w.alloc (.cells #[.slice fa p.fs.length fc, .slice oa p.os.length oc, .slice va p.vs.length vc, sV f.name, .int .i64 f.params, .int .i64 f.regs, .int .i64 f.prio, .bool f.cl, .slice ca f.code.length cc] 142)).alloc (.cells #[.int .i64 5, .int .i64 kd] 170)) := ⟨_, rfl⟩
      have BX := Lib.hid (show ∀ W, Ext wk W → (W.cell? ⟨w.heap.size, 0, none⟩ = some (.slice fa p.fs.length fc) ∧ W.cell? ⟨w.heap.size, 1, none⟩ = some (.slice oa p.os.length oc) ∧ W.cell? ⟨w.heap.size, 2, none⟩ = some (.slice va p.vs.length vc) ∧ W.cell? ⟨w.heap.size, 3, none⟩ = some (sV f.name) ∧ W.cell? ⟨w.heap.size, 4, none⟩ = some (.int .i64 f.params) ∧ W.cell? ⟨w.heap.size, 5, none⟩ = some (.int .i64 f.regs) ∧ W.cell? ⟨w.heap.size, 6, none⟩ = some (.int .i64 f.prio) ∧ W.cell? ⟨w.heap.size, 7, none⟩ = some (.bool f.cl) ∧ W.cell? ⟨w.heap.size, 8, none⟩ = some (.slice ca f.code.length cc) ∧ W.cell? ⟨w.heap.size + 1, 0, none⟩ = some (.int .i64 5) ∧ W.cell? ⟨w.heap.size + 1, 1, none⟩ = some (.int .i64 kd)) from fun W hW => by
        subst hwk
        have h0 := alloc_here w (.cells #[.slice fa p.fs.length fc, .slice oa p.os.length oc, .slice va p.vs.length vc, sV f.name, .int .i64 f.params, .int .i64 f.regs, .int .i64 f.prio, .bool f.cl, .slice ca f.code.length cc] 142)
        have h0 := (Below.heap_alloc _ (.cells #[.int .i64 5, .int .i64 kd] 170) _ (lt_of_block h0)).trans h0
        have k0 := (hW.below.block _ (lt_of_block h0)).trans h0
        have h1 := alloc_here (w.alloc (.cells #[.slice fa p.fs.length fc, .slice oa p.os.length oc, .slice va p.vs.length vc, sV f.name, .int .i64 f.params, .int .i64 f.regs, .int .i64 f.prio, .bool f.cl, .slice ca f.code.length cc] 142)) (.cells #[.int .i64 5, .int .i64 kd] 170)
        simp only [World.size_alloc] at h1
        have k1 := (hW.below.block _ (lt_of_block h1)).trans h1
        exact ⟨cell_of k0 rfl, cell_of k0 rfl, cell_of k0 rfl, cell_of k0 rfl, cell_of k0 rfl, cell_of k0 rfl, cell_of k0 rfl, cell_of k0 rfl, cell_of k0 rfl, cell_of k1 rfl, cell_of k1 rfl⟩)
      have HW := Lib.hid (show Ext w wk by rw [hwk]; exact (ext_alloc (ext_alloc (Below.refl _ _) _) _))
      have HE0 := Lib.hid (show Ext wk wk from Below.refl _ _)
      generalize f.name = fnm at *
      generalize f.params = fpa at *
      generalize f.regs = rg at *
      generalize f.prio = fpr at *
      generalize f.cl = fcl at *
      go_enter Tryz.func111, Tryz.ntmps111
      go_wp2_with fail
      rw [← hwk]
      clear hwk
      refine (K.out _).mono ?_
      rintro _ v1 ⟨rfl, hv1⟩
      rw [hv1]
      clear hv1 v1
      obtain ⟨d0_0, d0_1, d0_2, d0_3, d0_4, d0_5, d0_6, d0_7, d0_8, d1_0, d1_1⟩ := BX.out _ HE0.out
      go_wp2
      go_ret
      exact ⟨by rw [HR.out]; rfl, Ext.trans HW.out HE0.out⟩
    | false =>
      have HR := Lib.hid (show ckOpd p f ⟨5, kd⟩ n = 2 by
        have e : inB n (-1) (f.regs - 1) = inB (n + 1) 0 f.regs := by
          simp only [inB, decide_eq_decide]; omega
        simp [ckOpd, e, hb])
      generalize ckOpd p f ⟨5, kd⟩ n = res at *
      have K := fun W => inside_any (n + 1) (f.regs + 1) W (by omega)
      simp only [insE_out (show inB (n + 1) 0 (f.regs + 1 - 1) = false by rw [Int.add_sub_cancel]; exact hb)] at K
      have K := Lib.hid K
      clear h hb
      obtain ⟨wk, hwk⟩ : ∃ W, W = ((w.alloc (.cells #[.slice fa p.fs.length fc, .slice oa p.os.length oc, .slice va p.vs.length vc, sV f.name, .int .i64 f.params, .int .i64 f.regs, .int .i64 f.prio, .bool f.cl, .slice ca f.code.length cc] 142)).alloc (.cells #[.int .i64 5, .int .i64 kd] 170)) := ⟨_, rfl⟩
      have BX := Lib.hid (show ∀ W, Ext wk W → (W.cell? ⟨w.heap.size, 0, none⟩ = some (.slice fa p.fs.length fc) ∧ W.cell? ⟨w.heap.size, 1, none⟩ = some (.slice oa p.os.length oc) ∧ W.cell? ⟨w.heap.size, 2, none⟩ = some (.slice va p.vs.length vc) ∧ W.cell? ⟨w.heap.size, 3, none⟩ = some (sV f.name) ∧ W.cell? ⟨w.heap.size, 4, none⟩ = some (.int .i64 f.params) ∧ W.cell? ⟨w.heap.size, 5, none⟩ = some (.int .i64 f.regs) ∧ W.cell? ⟨w.heap.size, 6, none⟩ = some (.int .i64 f.prio) ∧ W.cell? ⟨w.heap.size, 7, none⟩ = some (.bool f.cl) ∧ W.cell? ⟨w.heap.size, 8, none⟩ = some (.slice ca f.code.length cc) ∧ W.cell? ⟨w.heap.size + 1, 0, none⟩ = some (.int .i64 5) ∧ W.cell? ⟨w.heap.size + 1, 1, none⟩ = some (.int .i64 kd)) from fun W hW => by
        subst hwk
        have h0 := alloc_here w (.cells #[.slice fa p.fs.length fc, .slice oa p.os.length oc, .slice va p.vs.length vc, sV f.name, .int .i64 f.params, .int .i64 f.regs, .int .i64 f.prio, .bool f.cl, .slice ca f.code.length cc] 142)
        have h0 := (Below.heap_alloc _ (.cells #[.int .i64 5, .int .i64 kd] 170) _ (lt_of_block h0)).trans h0
        have k0 := (hW.below.block _ (lt_of_block h0)).trans h0
        have h1 := alloc_here (w.alloc (.cells #[.slice fa p.fs.length fc, .slice oa p.os.length oc, .slice va p.vs.length vc, sV f.name, .int .i64 f.params, .int .i64 f.regs, .int .i64 f.prio, .bool f.cl, .slice ca f.code.length cc] 142)) (.cells #[.int .i64 5, .int .i64 kd] 170)
        simp only [World.size_alloc] at h1
        have k1 := (hW.below.block _ (lt_of_block h1)).trans h1
        exact ⟨cell_of k0 rfl, cell_of k0 rfl, cell_of k0 rfl, cell_of k0 rfl, cell_of k0 rfl, cell_of k0 rfl, cell_of k0 rfl, cell_of k0 rfl, cell_of k0 rfl, cell_of k1 rfl, cell_of k1 rfl⟩)
      have HW := Lib.hid (show Ext w wk by rw [hwk]; exact (ext_alloc (ext_alloc (Below.refl _ _) _) _))
      have HE0 := Lib.hid (show Ext wk wk from Below.refl _ _)
      generalize f.name = fnm at *
      generalize f.params = fpa at *
      generalize f.regs = rg at *
      generalize f.prio = fpr at *
      generalize f.cl = fcl at *
      go_enter Tryz.func111, Tryz.ntmps111
      go_wp2_with fail
      rw [← hwk]
      clear hwk
      refine (K.out _).mono ?_
      rintro _ v1 ⟨rfl, hv1⟩
      rw [hv1]
      clear hv1 v1
      obtain ⟨d0_0, d0_1, d0_2, d0_3, d0_4, d0_5, d0_6, d0_7, d0_8, d1_0, d1_1⟩ := BX.out _ HE0.out
      go_wp2
      go_ret
      exact ⟨by rw [HR.out]; rfl, Ext.trans HW.out HE0.out⟩

set_option maxRecDepth 100000 in
set_option maxHeartbeats 2000000 in
theorem operand_6 (p : Pg) (A : PA) (f : Fn) (ca : Option Addr) (cc : Nat) (kd n : Int) (w : World) (h : CkAt w p A f ca) (hn : i64 n) :
    Gives Tryz.prog 111 #[CKV p A f ca cc, .agg #[.int .i64 6, .int .i64 kd], .int .i64 n] w (.int .i64 (ckOpd p f ⟨6, kd⟩ n)) := by
  unfold Gives
  obtain ⟨fa, fc, oa, oc, va, vc⟩ := A
  dsimp only [CKV]
  obtain ⟨hn1, hn2⟩ := hn
  obtain ⟨hr1, hr2⟩ := h.regs
  have hlc := h.fwf.len
  have hlf := h.pg.wf.nf
  have hlo := h.pg.wf.no
  have hlv := h.pg.wf.nv
  cases hb : inB n 0 ((f.code.length : Int) - 1) with
  | true =>
    have HR := Lib.hid (show ckOpd p f ⟨6, kd⟩ n = 0 by simp [ckOpd, hb])

    generalize ckOpd p f ⟨6, kd⟩ n = res at *
    have K := fun W => inside_any n f.code.length W (by omega)
    simp only [insE_in hb] at K
    have K := Lib.hid K
    clear h hb
    obtain ⟨wk, hwk⟩ : ∃ W, W = ((w.alloc (.cells #[.slice fa p.fs.length fc, .slice oa p.os.length oc, .slice va p.vs.length vc, sV f.name, .int .i64 f.params, .int .i64 f.regs, .int .i64 f.prio, .bool f.cl, .slice ca f.code.length cc] 142)).alloc (.cells #[.int .i64 6, .int .i64 kd] 170)) := ⟨_, rfl⟩
    have BX := Lib.hid (show ∀ W, Ext wk W → (W.cell? ⟨w.heap.size, 0, none⟩ = some (.slice fa p.fs.length fc) ∧ W.cell? ⟨w.heap.size, 1, none⟩ = some (.slice oa p.os.length oc) ∧ W.cell? ⟨w.heap.size, 2, none⟩ = some (.slice va p.vs.length vc) ∧ W.cell? ⟨w.heap.size, 3, none⟩ = some (sV f.name) ∧ W.cell? ⟨w.heap.size, 4, none⟩ = some (.int .i64 f.params) ∧ W.cell? ⟨w.heap.size, 5, none⟩ = some (.int .i64 f.regs) ∧ W.cell? ⟨w.heap.size, 6, none⟩ = some (.int .i64 f.prio) ∧ W.cell? ⟨w.heap.size, 7, none⟩ = some (.bool f.cl) ∧ W.cell? ⟨w.heap.size, 8, none⟩ = some (.slice ca f.code.length cc) ∧ W.cell? ⟨w.heap.size + 1, 0, none⟩ = some (.int .i64 6) ∧ W.cell? ⟨w.heap.size + 1, 1, none⟩ = some (.int .i64 kd)) from fun W hW => by
      subst hwk
      have h0 := alloc_here w (.cells #[.slice fa p.fs.length fc, .slice oa p.os.length oc, .slice va p.vs.length vc, sV f.name, .int .i64 f.params, .int .i64 f.regs, .int .i64 f.prio, .bool f.cl, .slice ca f.code.length cc] 142)
      have h0 := (Below.heap_alloc _ (.cells #[.int .i64 6, .int .i64 kd] 170) _ (lt_of_block h0)).trans h0
      have k0 := (hW.below.block _ (lt_of_block h0)).trans h0
      have h1 := alloc_here (w.alloc (.cells #[.slice fa p.fs.length fc, .slice oa p.os.length oc, .slice va p.vs.length vc, sV f.name, .int .i64 f.params, .int .i64 f.regs, .int .i64 f.prio, .bool f.cl, .slice ca f.code.length cc] 142)) (.cells #[.int .i64 6, .int .i64 kd] 170)
      simp only [World.size_alloc] at h1
      have k1 := (hW.below.block _ (lt_of_block h1)).trans h1
      exact ⟨cell_of k0 rfl, cell_of k0 rfl, cell_of k0 rfl, cell_of k0 rfl, cell_of k0 rfl, cell_of k0 rfl, cell_of k0 rfl, cell_of k0 rfl, cell_of k0 rfl, cell_of k1 rfl, cell_of k1 rfl⟩)
    have HW := Lib.hid (show Ext w wk by rw [hwk]; exact (ext_alloc (ext_alloc (Below.refl _ _) _) _))
    have HE0 := Lib.hid (show Ext wk wk from Below.refl _ _)
    generalize f.name = fnm at *
    generalize f.params = fpa at *
    generalize f.regs = rg at *
    generalize f.prio = fpr at *
    generalize f.cl = fcl at *
    go_enter Tryz.func111, Tryz.ntmps111
    go_wp2_with fail
    rw [← hwk]
    clear hwk
    refine (K.out _).mono ?_
    rintro _ v1 ⟨rfl, hv1⟩
    rw [hv1]
    clear hv1 v1
    obtain ⟨d0_0, d0_1, d0_2, d0_3, d0_4, d0_5, d0_6, d0_7, d0_8, d1_0, d1_1⟩ := BX.out _ HE0.out
    go_wp2
    go_ret
    exact ⟨by rw [HR.out]; rfl, Ext.trans HW.out HE0.out⟩
  | false =>
    have HR := Lib.hid (show ckOpd p f ⟨6, kd⟩ n = 2 by simp [ckOpd, hb])

    generalize ckOpd p f ⟨6, kd⟩ n = res at *
    have K := fun W => inside_any n f.code.length W (by omega)
    simp only [insE_out hb] at K
    have K := Lib.hid K
    clear h hb
    obtain ⟨wk, hwk⟩ : ∃ W, W = ((w.alloc (.cells #[.slice fa p.fs.length fc, .slice oa p.os.length oc, .slice va p.vs.length vc, sV f.name, .int .i64 f.params, .int .i64 f.regs, .int .i64 f.prio, .bool f.cl, .slice ca f.code.length cc] 142)).alloc (.cells #[.int .i64 6, .int .i64 kd] 170)) := ⟨_, rfl⟩
    have BX := Lib.hid (show ∀ W, Ext wk W → (W.cell? ⟨w.heap.size, 0, none⟩ = some (.slice fa p.fs.length fc) ∧ W.cell? ⟨w.heap.size, 1, none⟩ = some (.slice oa p.os.length oc) ∧ W.cell? ⟨w.heap.size, 2, none⟩ = some (.slice va p.vs.length vc) ∧ W.cell? ⟨w.heap.size, 3, none⟩ = some (sV f.name) ∧ W.cell? ⟨w.heap.size, 4, none⟩ = some (.int .i64 f.params) ∧ W.cell? ⟨w.heap.size, 5, none⟩ = some (.int .i64 f.regs) ∧ W.cell? ⟨w.heap.size, 6, none⟩ = some (.int .i64 f.prio) ∧ W.cell? ⟨w.heap.size, 7, none⟩ = some (.bool f.cl) ∧ W.cell? ⟨w.heap.size, 8, none⟩ = some (.slice ca f.code.length cc) ∧ W.cell? ⟨w.heap.size + 1, 0, none⟩ = some (.int .i64 6) ∧ W.cell? ⟨w.heap.size + 1, 1, none⟩ = some (.int .i64 kd)) from fun W hW => by
      subst hwk
      have h0 := alloc_here w (.cells #[.slice fa p.fs.length fc, .slice oa p.os.length oc, .slice va p.vs.length vc, sV f.name, .int .i64 f.params, .int .i64 f.regs, .int .i64 f.prio, .bool f.cl, .slice ca f.code.length cc] 142)
      have h0 := (Below.heap_alloc _ (.cells #[.int .i64 6, .int .i64 kd] 170) _ (lt_of_block h0)).trans h0
      have k0 := (hW.below.block _ (lt_of_block h0)).trans h0
      have h1 := alloc_here (w.alloc (.cells #[.slice fa p.fs.length fc, .slice oa p.os.length oc, .slice va p.vs.length vc, sV f.name, .int .i64 f.params, .int .i64 f.regs, .int .i64 f.prio, .bool f.cl, .slice ca f.code.length cc] 142)) (.cells #[.int .i64 6, .int .i64 kd] 170)
      simp only [World.size_alloc] at h1
      have k1 := (hW.below.block _ (lt_of_block h1)).trans h1
      exact ⟨cell_of k0 rfl, cell_of k0 rfl, cell_of k0 rfl, cell_of k0 rfl, cell_of k0 rfl, cell_of k0 rfl, cell_of k0 rfl, cell_of k0 rfl, cell_of k0 rfl, cell_of k1 rfl, cell_of k1 rfl⟩)
    have HW := Lib.hid (show Ext w wk by rw [hwk]; exact (ext_alloc (ext_alloc (Below.refl _ _) _) _))
    have HE0 := Lib.hid (show Ext wk wk from Below.refl _ _)
    generalize f.name = fnm at *
    generalize f.params = fpa at *
    generalize f.regs = rg at *
    generalize f.prio = fpr at *
    generalize f.cl = fcl at *
    go_enter Tryz.func111, Tryz.ntmps111
    go_wp2_with fail
    rw [← hwk]
    clear hwk
    refine (K.out _).mono ?_
    rintro _ v1 ⟨rfl, hv1⟩
    rw [hv1]
    clear hv1 v1
    obtain ⟨d0_0, d0_1, d0_2, d0_3, d0_4, d0_5, d0_6, d0_7, d0_8, d1_0, d1_1⟩ := BX.out _ HE0.out
    go_wp2
    go_ret
    exact ⟨by rw [HR.out]; rfl, Ext.trans HW.out HE0.out⟩

set_option maxRecDepth 100000 in
set_option maxHeartbeats 2000000 in
theorem operand_7 (p : Pg) (A : PA) (f : Fn) (ca : Option Addr) (cc : Nat) (kd n : Int) (w : World) (h : CkAt w p A f ca) (hn : i64 n) :
    Gives Tryz.prog 111 #[CKV p A f ca cc, .agg #[.int .i64 7, .int .i64 kd], .int .i64 n] w (.int .i64 (ckOpd p f ⟨7, kd⟩ n)) := by
  unfold Gives
  obtain ⟨fa, fc, oa, oc, va, vc⟩ := A
  dsimp only [CKV]
  obtain ⟨hn1, hn2⟩ := hn
  obtain ⟨hr1, hr2⟩ := h.regs
  have hlc := h.fwf.len
  have hlf := h.pg.wf.nf
  have hlo := h.pg.wf.no
  have hlv := h.pg.wf.nv
  cases hb : inB n 0 ((f.code.length : Int) - 1) with
  | false =>
    have HR := Lib.hid (show ckOpd p f ⟨7, kd⟩ n = 2 by simp [ckOpd, hb])
    generalize ckOpd p f ⟨7, kd⟩ n = res at *
    have K := fun W => inside_any n f.code.length W (by omega)
    simp only [insE_out hb] at K
    have K := Lib.hid K
    clear h hb
    obtain ⟨wk, hwk⟩ : ∃ W, W = ((w.alloc (.cells #[.slice fa p.fs.length fc, .slice oa p.os.length oc, .slice va p.vs.length vc, sV f.name, .int .i64 f.params, .int .i64 f.regs, .int .i64 f.prio, .bool f.cl, .slice ca f.code.length cc] 142)).alloc (.cells #[.int .i64 7, .int .i64 kd] 170)) := ⟨_, rfl⟩
    have BX := Lib.hid (show ∀ W, Ext wk W → (W.cell? ⟨w.heap.size, 0, none⟩ = some (.slice fa p.fs.length fc) ∧ W.cell? ⟨w.heap.size, 1, none⟩ = some (.slice oa p.os.length oc) ∧ W.cell? ⟨w.heap.size, 2, none⟩ = some (.slice va p.vs.length vc) ∧ W.cell? ⟨w.heap.size, 3, none⟩ = some (sV f.name) ∧ W.cell? ⟨w.heap.size, 4, none⟩ = some (.int .i64 f.params) ∧ W.cell? ⟨w.heap.size, 5, none⟩ = some (.int .i64 f.regs) ∧ W.cell? ⟨w.heap.size, 6, none⟩ = some (.int .i64 f.prio) ∧ W.cell? ⟨w.heap.size, 7, none⟩ = some (.bool f.cl) ∧ W.cell? ⟨w.heap.size, 8, none⟩ = some (.slice ca f.code.length cc) ∧ W.cell? ⟨w.heap.size + 1, 0, none⟩ = some (.int .i64 7) ∧ W.cell? ⟨w.heap.size + 1, 1, none⟩ = some (.int .i64 kd)) from fun W hW => by
      subst hwk
      have h0 := alloc_here w (.cells #[.slice fa p.fs.length fc, .slice oa p.os.length oc, .slice va p.vs.length vc, sV f.name, .int .i64 f.params, .int .i64 f.regs, .int .i64 f.prio, .bool f.cl, .slice ca f.code.length cc] 142)
      have h0 := (Below.heap_alloc _ (.cells #[.int .i64 7, .int .i64 kd] 170) _ (lt_of_block h0)).trans h0
      have k0 := (hW.below.block _ (lt_of_block h0)).trans h0
      have h1 := alloc_here (w.alloc (.cells #[.slice fa p.fs.length fc, .slice oa p.os.length oc, .slice va p.vs.length vc, sV f.name, .int .i64 f.params, .int .i64 f.regs, .int .i64 f.prio, .bool f.cl, .slice ca f.code.length cc] 142)) (.cells #[.int .i64 7, .int .i64 kd] 170)
      simp only [World.size_alloc] at h1
      have k1 := (hW.below.block _ (lt_of_block h1)).trans h1
      exact ⟨cell_of k0 rfl, cell_of k0 rfl, cell_of k0 rfl, cell_of k0 rfl, cell_of k0 rfl, cell_of k0 rfl, cell_of k0 rfl, cell_of k0 rfl, cell_of k0 rfl, cell_of k1 rfl, cell_of k1 rfl⟩)
    have HW := Lib.hid (show Ext w wk by rw [hwk]; exact (ext_alloc (ext_alloc (Below.refl _ _) _) _))
    have HE0 := Lib.hid (show Ext wk wk from Below.refl _ _)
    generalize f.name = fnm at *
    generalize f.params = fpa at *
    generalize f.regs = rg at *
    generalize f.prio = fpr at *
    generalize f.cl = fcl at *
    go_enter Tryz.func111, Tryz.ntmps111
    go_wp2_with fail
    rw [← hwk]
    clear hwk
    refine (K.out _).mono ?_
    rintro _ v1 ⟨rfl, hv1⟩
    rw [hv1]
    clear hv1 v1
    obtain ⟨d0_0, d0_1, d0_2, d0_3, d0_4, d0_5, d0_6, d0_7, d0_8, d1_0, d1_1⟩ := BX.out _ HE0.out
    go_wp2
    go_ret
    exact ⟨by rw [HR.out]; rfl, Ext.trans HW.out HE0.out⟩
  | true =>
    obtain ⟨m, rfl, hm⟩ := inB_nat hb
    obtain ⟨b', o', a', c', e', hcs, -⟩ := h.code m hm
    subst e'
    have HR0 := Lib.hid (show ckOpd p f ⟨7, kd⟩ m = (if (f.code[m]).op = 36 then 0 else 8) by simp [ckOpd, hb, hm, kindAt])
    generalize ckOpd p f ⟨7, kd⟩ m = res at *
    have K := fun W => inside_any m f.code.length W (by omega)
    simp only [insE_in hb] at K
    have K := Lib.hid K
    have x0 := hcs.c0
    clear h hb hcs
    generalize (f.code[m]).op = tv at *
    by_cases hq : tv = 36
    · have h1 : (tv != 36) = false := by simpa using hq
      have HR := Lib.hid (show res = 0 by rw [HR0.out]; simp [hq])
      clear HR0
      clear hq
      obtain ⟨wk, hwk⟩ : ∃ W, W = ((w.alloc (.cells #[.slice fa p.fs.length fc, .slice oa p.os.length oc, .slice va p.vs.length vc, sV f.name, .int .i64 f.params, .int .i64 f.regs, .int .i64 f.prio, .bool f.cl, .slice (some ⟨b', o', none⟩) f.code.length cc] 142)).alloc (.cells #[.int .i64 7, .int .i64 kd] 170)) := ⟨_, rfl⟩
      have BX := Lib.hid (show ∀ W, Ext wk W → (W.cell? ⟨w.heap.size, 0, none⟩ = some (.slice fa p.fs.length fc) ∧ W.cell? ⟨w.heap.size, 1, none⟩ = some (.slice oa p.os.length oc) ∧ W.cell? ⟨w.heap.size, 2, none⟩ = some (.slice va p.vs.length vc) ∧ W.cell? ⟨w.heap.size, 3, none⟩ = some (sV f.name) ∧ W.cell? ⟨w.heap.size, 4, none⟩ = some (.int .i64 f.params) ∧ W.cell? ⟨w.heap.size, 5, none⟩ = some (.int .i64 f.regs) ∧ W.cell? ⟨w.heap.size, 6, none⟩ = some (.int .i64 f.prio) ∧ W.cell? ⟨w.heap.size, 7, none⟩ = some (.bool f.cl) ∧ W.cell? ⟨w.heap.size, 8, none⟩ = some (.slice (some ⟨b', o', none⟩) f.code.length cc) ∧ W.cell? ⟨w.heap.size + 1, 0, none⟩ = some (.int .i64 7) ∧ W.cell? ⟨w.heap.size + 1, 1, none⟩ = some (.int .i64 kd)) from fun W hW => by
        subst hwk
        have h0 := alloc_here w (.cells #[.slice fa p.fs.length fc, .slice oa p.os.length oc, .slice va p.vs.length vc, sV f.name, .int .i64 f.params, .int .i64 f.regs, .int .i64 f.prio, .bool f.cl, .slice (some ⟨b', o', none⟩) f.code.length cc] 142)
        have h0 := (Below.heap_alloc _ (.cells #[.int .i64 7, .int .i64 kd] 170) _ (lt_of_block h0)).trans h0
        have k0 := (hW.below.block _ (lt_of_block h0)).trans h0
        have h1 := alloc_here (w.alloc (.cells #[.slice fa p.fs.length fc, .slice oa p.os.length oc, .slice va p.vs.length vc, sV f.name, .int .i64 f.params, .int .i64 f.regs, .int .i64 f.prio, .bool f.cl, .slice (some ⟨b', o', none⟩) f.code.length cc] 142)) (.cells #[.int .i64 7, .int .i64 kd] 170)
        simp only [World.size_alloc] at h1
        have k1 := (hW.below.block _ (lt_of_block h1)).trans h1
        exact ⟨cell_of k0 rfl, cell_of k0 rfl, cell_of k0 rfl, cell_of k0 rfl, cell_of k0 rfl, cell_of k0 rfl, cell_of k0 rfl, cell_of k0 rfl, cell_of k0 rfl, cell_of k1 rfl, cell_of k1 rfl⟩)
      have HW := Lib.hid (show Ext w wk by rw [hwk]; exact (ext_alloc (ext_alloc (Below.refl _ _) _) _))
      have HE0 := Lib.hid (show Ext wk wk from Below.refl _ _)
      generalize f.name = fnm at *
      generalize f.params = fpa at *
      generalize f.regs = rg at *
      generalize f.prio = fpr at *
      generalize f.cl = fcl at *
      have x1 := cell_ext x0 HW.out
      clear x0
      go_enter Tryz.func111, Tryz.ntmps111
      go_wp2_with fail
      rw [← hwk]
      clear hwk
      refine (K.out _).mono ?_
      rintro _ v1 ⟨rfl, hv1⟩
      rw [hv1]
      clear hv1 v1
      obtain ⟨d0_0, d0_1, d0_2, d0_3, d0_4, d0_5, d0_6, d0_7, d0_8, d1_0, d1_1⟩ := BX.out _ HE0.out
      go_wp2
      go_ret
      exact ⟨by rw [HR.out]; rfl, Ext.trans HW.out HE0.out⟩
    · have h1 : (tv != 36) = true := by simpa using hq
      have HR := Lib.hid (show res = 8 by rw [HR0.out]; simp [hq])
      clear HR0
      clear hq
      obtain ⟨wk, hwk⟩ : ∃ W, W = ((w.alloc (.cells #[.slice fa p.fs.length fc, .slice oa p.os.length oc, .slice va p.vs.length vc, sV f.name, .int .i64 f.params, .int .i64 f.regs, .int .i64 f.prio, .bool f.cl, .slice (some ⟨b', o', none⟩) f.code.length cc] 142)).alloc (.cells #[.int .i64 7, .int .i64 kd] 170)) := ⟨_, rfl⟩
      have BX := Lib.hid (show ∀ W, Ext wk W → (W.cell? ⟨w.heap.size, 0, none⟩ = some (.slice fa p.fs.length fc) ∧ W.cell? ⟨w.heap.size, 1, none⟩ = some (.slice oa p.os.length oc) ∧ W.cell? ⟨w.heap.size, 2, none⟩ = some (.slice va p.vs.length vc) ∧ W.cell? ⟨w.heap.size, 3, none⟩ = some (sV f.name) ∧ W.cell? ⟨w.heap.size, 4, none⟩ = some (.int .i64 f.params) ∧ W.cell? ⟨w.heap.size, 5, none⟩ = some (.int .i64 f.regs) ∧ W.cell? ⟨w.heap.size, 6, none⟩ = some (.int .i64 f.prio) ∧ W.cell? ⟨w.heap.size, 7, none⟩ = some (.bool f.cl) ∧ W.cell? ⟨w.heap.size, 8, none⟩ = some (.slice (some ⟨b', o', none⟩) f.code.length cc) ∧ W.cell? ⟨w.heap.size + 1, 0, none⟩ = some (.int .i64 7) ∧ W.cell? ⟨w.heap.size + 1, 1, none⟩ = some (.int .i64 kd)) from fun W hW => by
        subst hwk
        have h0 := alloc_here w (.cells #[.slice fa p.fs.length fc, .slice oa p.os.length oc, .slice va p.vs.length vc, sV f.name, .int .i64 f.params, .int .i64 f.regs, .int .i64 f.prio, .bool f.cl, .slice (some ⟨b', o', none⟩) f.code.length cc] 142)
        have h0 := (Below.heap_alloc _ (.cells #[.int .i64 7, .int .i64 kd] 170) _ (lt_of_block h0)).trans h0
        have k0 := (hW.below.block _ (lt_of_block h0)).trans h0
        have h1 := alloc_here (w.alloc (.cells #[.slice fa p.fs.length fc, .slice oa p.os.length oc, .slice va p.vs.length vc, sV f.name, .int .i64 f.params, .int .i64 f.regs, .int .i64 f.prio, .bool f.cl, .slice (some ⟨b', o', none⟩) f.code.length cc] 142)) (.cells #[.int .i64 7, .int .i64 kd] 170)
        simp only [World.size_alloc] at h1
        have k1 := (hW.below.block _ (lt_of_block h1)).trans h1
        exact ⟨cell_of k0 rfl, cell_of k0 rfl, cell_of k0 rfl, cell_of k0 rfl, cell_of k0 rfl, cell_of k0 rfl, cell_of k0 rfl, cell_of k0 rfl, cell_of k0 rfl, cell_of k1 rfl, cell_of k1 rfl⟩)
      have HW := Lib.hid (show Ext w wk by rw [hwk]; exact (ext_alloc (ext_alloc (Below.refl _ _) _) _))
      have HE0 := Lib.hid (show Ext wk wk from Below.refl _ _)
      generalize f.name = fnm at *
      generalize f.params = fpa at *
      generalize f.regs = rg at *
      generalize f.prio = fpr at *
      generalize f.cl = fcl at *
      have x1 := cell_ext x0 HW.out
      clear x0
      go_enter Tryz.func111, Tryz.ntmps111
      go_wp2_with fail
      rw [← hwk]
      clear hwk
      refine (K.out _).mono ?_
      rintro _ v1 ⟨rfl, hv1⟩
      rw [hv1]
      clear hv1 v1
      obtain ⟨d0_0, d0_1, d0_2, d0_3, d0_4, d0_5, d0_6, d0_7, d0_8, d1_0, d1_1⟩ := BX.out _ HE0.out
      go_wp2
      go_ret
      exact ⟨by rw [HR.out]; rfl, Ext.trans HW.out HE0.out⟩

set_option maxRecDepth 100000 in
set_option maxHeartbeats 2000000 in
theorem operand_8 (p : Pg) (A : PA) (f : Fn) (ca : Option Addr) (cc : Nat) (kd n : Int) (w : World) (h : CkAt w p A f ca) (hn : i64 n) :
    Gives Tryz.prog 111 #[CKV p A f ca cc, .agg #[.int .i64 8, .int .i64 kd], .int .i64 n] w (.int .i64 (ckOpd p f ⟨8, kd⟩ n)) := by
  unfold Gives
  obtain ⟨fa, fc, oa, oc, va, vc⟩ := A
  dsimp only [CKV]
  obtain ⟨hn1, hn2⟩ := hn
  obtain ⟨hr1, hr2⟩ := h.regs
  have hlc := h.fwf.len
  have hlf := h.pg.wf.nf
  have hlo := h.pg.wf.no
  have hlv := h.pg.wf.nv
  cases hb : inB n 0 ((p.fs.length : Int) - 1) with
  | false =>
    have HR := Lib.hid (show ckOpd p f ⟨8, kd⟩ n = 2 by simp [ckOpd, hb])
    generalize ckOpd p f ⟨8, kd⟩ n = res at *
    have K := fun W => inside_any n p.fs.length W (by omega)
    simp only [insE_out hb] at K
    have K := Lib.hid K
    clear h hb
    obtain ⟨wk, hwk⟩ : ∃ W, W = ((w.alloc (.cells #[.slice fa p.fs.length fc, .slice oa p.os.length oc, .slice va p.vs.length vc, sV f.name, .int .i64 f.params, .int .i64 f.regs, .int .i64 f.prio, .bool f.cl, .slice ca f.code.length cc] 142)).alloc (.cells #[.int .i64 8, .int .i64 kd] 170)) := ⟨_, rfl⟩
    have BX := Lib.hid (show ∀ W, Ext wk W → (W.cell? ⟨w.heap.size, 0, none⟩ = some (.slice fa p.fs.length fc) ∧ W.cell? ⟨w.heap.size, 1, none⟩ = some (.slice oa p.os.length oc) ∧ W.cell? ⟨w.heap.size, 2, none⟩ = some (.slice va p.vs.length vc) ∧ W.cell? ⟨w.heap.size, 3, none⟩ = some (sV f.name) ∧ W.cell? ⟨w.heap.size, 4, none⟩ = some (.int .i64 f.params) ∧ W.cell? ⟨w.heap.size, 5, none⟩ = some (.int .i64 f.regs) ∧ W.cell? ⟨w.heap.size, 6, none⟩ = some (.int .i64 f.prio) ∧ W.cell? ⟨w.heap.size, 7, none⟩ = some (.bool f.cl) ∧ W.cell? ⟨w.heap.size, 8, none⟩ = some (.slice ca f.code.length cc) ∧ W.cell? ⟨w.heap.size + 1, 0, none⟩ = some (.int .i64 8) ∧ W.cell? ⟨w.heap.size + 1, 1, none⟩ = some (.int .i64 kd)) from fun W hW => by
      subst hwk
      have h0 := alloc_here w (.cells #[.slice fa p.fs.length fc, .slice oa p.os.length oc, .slice va p.vs.length vc, sV f.name, .int .i64 f.params, .int .i64 f.regs, .int .i64 f.prio, .bool f.cl, .slice ca f.code.length cc] 142)
      have h0 := (Below.heap_alloc _ (.cells #[.int .i64 8, .int .i64 kd] 170) _ (lt_of_block h0)).trans h0
      have k0 := (hW.below.block _ (lt_of_block h0)).trans h0
      have h1 := alloc_here (w.alloc (.cells #[.slice fa p.fs.length fc, .slice oa p.os.length oc, .slice va p.vs.length vc, sV f.name, .int .i64 f.params, .int .i64 f.regs, .int .i64 f.prio, .bool f.cl, .slice ca f.code.length cc] 142)) (.cells #[.int .i64 8, .int .i64 kd] 170)
      simp only [World.size_alloc] at h1
      have k1 := (hW.below.block _ (lt_of_block h1)).trans h1
      exact ⟨cell_of k0 rfl, cell_of k0 rfl, cell_of k0 rfl, cell_of k0 rfl, cell_of k0 rfl, cell_of k0 rfl, cell_of k0 rfl, cell_of k0 rfl, cell_of k0 rfl, cell_of k1 rfl, cell_of k1 rfl⟩)
    have HW := Lib.hid (show Ext w wk by rw [hwk]; exact (ext_alloc (ext_alloc (Below.refl _ _) _) _))
    have HE0 := Lib.hid (show Ext wk wk from Below.refl _ _)
    generalize f.name = fnm at *
    generalize f.params = fpa at *
    generalize f.regs = rg at *
    generalize f.prio = fpr at *
    generalize f.cl = fcl at *
    go_enter Tryz.func111, Tryz.ntmps111
    go_wp2_with fail
    rw [← hwk]
    clear hwk
    refine (K.out _).mono ?_
    rintro _ v1 ⟨rfl, hv1⟩
    rw [hv1]
    clear hv1 v1
    obtain ⟨d0_0, d0_1, d0_2, d0_3, d0_4, d0_5, d0_6, d0_7, d0_8, d1_0, d1_1⟩ := BX.out _ HE0.out
    go_wp2
    go_quiet (fail)
    go_wp2
    go_ret
    exact ⟨by rw [HR.out]; rfl, Ext.drewN' (Ext.trans HW.out HE0.out)⟩
  | true =>
    obtain ⟨m, rfl, hm⟩ := inB_nat hb
    obtain ⟨b', o', a', c', e', hcs, -⟩ := h.pg.fs m hm
    dsimp only at e'
    subst e'
    have HR0 := Lib.hid (show ckOpd p f ⟨8, kd⟩ m = (if (p.fs[m]).cl = false then 0 else 16) by simp [ckOpd, hb, hm, kindAt])
    generalize ckOpd p f ⟨8, kd⟩ m = res at *
    have K := fun W => inside_any m p.fs.length W (by omega)
    simp only [insE_in hb] at K
    have K := Lib.hid K
    have x0 := hcs.c4
    clear h hb hcs
    generalize (p.fs[m]).cl = tv at *
    by_cases hq : tv = false
    · have h1 := hq
      subst h1
      have HR := Lib.hid (show res = 0 by rw [HR0.out]; simp [hq])
      clear HR0
      obtain ⟨wk, hwk⟩ : ∃ W, W = ((w.alloc (.cells #[.slice (some ⟨b', o', none⟩) p.fs.length fc, .slice oa p.os.length oc, .slice va p.vs.length vc, sV f.name, .int .i64 f.params, .int .i64 f.regs, .int .i64 f.prio, .bool f.cl, .slice ca f.code.length cc] 142)).alloc (.cells #[.int .i64 8, .int .i64 kd] 170)) := ⟨_, rfl⟩
      have BX := Lib.hid (show ∀ W, Ext wk W → (W.cell? ⟨w.heap.size, 0, none⟩ = some (.slice (some ⟨b', o', none⟩) p.fs.length fc) ∧ W.cell? ⟨w.heap.size, 1, none⟩ = some (.slice oa p.os.length oc) ∧ W.cell? ⟨w.heap.size, 2, none⟩ = some (.slice va p.vs.length vc) ∧ W.cell? ⟨w.heap.size, 3, none⟩ = some (sV f.name) ∧ W.cell? ⟨w.heap.size, 4, none⟩ = some (.int .i64 f.params) ∧ W.cell? ⟨w.heap.size, 5, none⟩ = some (.int .i64 f.regs) ∧ W.cell? ⟨w.heap.size, 6, none⟩ = some (.int .i64 f.prio) ∧ W.cell? ⟨w.heap.size, 7, none⟩ = some (.bool f.cl) ∧ W.cell? ⟨w.heap.size, 8, none⟩ = some (.slice ca f.code.length cc) ∧ W.cell? ⟨w.heap.size + 1, 0, none⟩ = some (.int .i64 8) ∧ W.cell? ⟨w.heap.size + 1, 1, none⟩ = some (.int .i64 kd)) from fun W hW => by
        subst hwk
        have h0 := alloc_here w (.cells #[.slice (some ⟨b', o', none⟩) p.fs.length fc, .slice oa p.os.length oc, .slice va p.vs.length vc, sV f.name, .int .i64 f.params, .int .i64 f.regs, .int .i64 f.prio, .bool f.cl, .slice ca f.code.length cc] 142)
        have h0 := (Below.heap_alloc _ (.cells #[.int .i64 8, .int .i64 kd] 170) _ (lt_of_block h0)).trans h0
        have k0 := (hW.below.block _ (lt_of_block h0)).trans h0
        have h1 := alloc_here (w.alloc (.cells #[.slice (some ⟨b', o', none⟩) p.fs.length fc, .slice oa p.os.length oc, .slice va p.vs.length vc, sV f.name, .int .i64 f.params, .int .i64 f.regs, .int .i64 f.prio, .bool f.cl, .slice ca f.code.length cc] 142)) (.cells #[.int .i64 8, .int .i64 kd] 170)
        simp only [World.size_alloc] at h1
        have k1 := (hW.below.block _ (lt_of_block h1)).trans h1
        exact ⟨cell_of k0 rfl, cell_of k0 rfl, cell_of k0 rfl, cell_of k0 rfl, cell_of k0 rfl, cell_of k0 rfl, cell_of k0 rfl, cell_of k0 rfl, cell_of k0 rfl, cell_of k1 rfl, cell_of k1 rfl⟩)
      have HW := Lib.hid (show Ext w wk by rw [hwk]; exact (ext_alloc (ext_alloc (Below.refl _ _) _) _))
      have HE0 := Lib.hid (show Ext wk wk from Below.refl _ _)
      generalize f.name = fnm at *
      generalize f.params = fpa at *
      generalize f.regs = rg at *
      generalize f.prio = fpr at *
      generalize f.cl = fcl at *
      have x1 := cell_ext x0 HW.out
      clear x0
      go_enter Tryz.func111, Tryz.ntmps111
      go_wp2_with fail
      rw [← hwk]
      clear hwk
      refine (K.out _).mono ?_
      rintro _ v1 ⟨rfl, hv1⟩
      rw [hv1]
      clear hv1 v1
      obtain ⟨d0_0, d0_1, d0_2, d0_3, d0_4, d0_5, d0_6, d0_7, d0_8, d1_0, d1_1⟩ := BX.out _ HE0.out
      go_wp2
      go_quiet (fail)
      go_wp2
      go_ret
      exact ⟨by rw [HR.out]; rfl, Ext.drewN' (Ext.trans HW.out HE0.out)⟩
    · have h1 : tv = true := by simpa using hq
      subst h1
      have HR := Lib.hid (show res = 16 by rw [HR0.out]; simp [hq])
      clear HR0
      obtain ⟨wk, hwk⟩ : ∃ W, W = ((w.alloc (.cells #[.slice (some ⟨b', o', none⟩) p.fs.length fc, .slice oa p.os.length oc, .slice va p.vs.length vc, sV f.name, .int .i64 f.params, .int .i64 f.regs, .int .i64 f.prio, .bool f.cl, .slice ca f.code.length cc] 142)).alloc (.cells #[.int .i64 8, .int .i64 kd] 170)) := ⟨_, rfl⟩
      have BX := Lib.hid (show ∀ W, Ext wk W → (W.cell? ⟨w.heap.size, 0, none⟩ = some (.slice (some ⟨b', o', none⟩) p.fs.length fc) ∧ W.cell? ⟨w.heap.size, 1, none⟩ = some (.slice oa p.os.length oc) ∧ W.cell? ⟨w.heap.size, 2, none⟩ = some (.slice va p.vs.length vc) ∧ W.cell? ⟨w.heap.size, 3, none⟩ = some (sV f.name) ∧ W.cell? ⟨w.heap.size, 4, none⟩ = some (.int .i64 f.params) ∧ W.cell? ⟨w.heap.size, 5, none⟩ = some (.int .i64 f.regs) ∧ W.cell? ⟨w.heap.size, 6, none⟩ = some (.int .i64 f.prio) ∧ W.cell? ⟨w.heap.size, 7, none⟩ = some (.bool f.cl) ∧ W.cell? ⟨w.heap.size, 8, none⟩ = some (.slice ca f.code.length cc) ∧ W.cell? ⟨w.heap.size + 1, 0, none⟩ = some (.int .i64 8) ∧ W.cell? ⟨w.heap.size + 1, 1, none⟩ = some (.int .i64 kd)) from fun W hW => by
        subst hwk
        have h0 := alloc_here w (.cells #[.slice (some ⟨b', o', none⟩) p.fs.length fc, .slice oa p.os.length oc, .slice va p.vs.length vc, sV f.name, .int .i64 f.params, .int .i64 f.regs, .int .i64 f.prio, .bool f.cl, .slice ca f.code.length cc] 142)
        have h0 := (Below.heap_alloc _ (.cells #[.int .i64 8, .int .i64 kd] 170) _ (lt_of_block h0)).trans h0
        have k0 := (hW.below.block _ (lt_of_block h0)).trans h0
        have h1 := alloc_here (w.alloc (.cells #[.slice (some ⟨b', o', none⟩) p.fs.length fc, .slice oa p.os.length oc, .slice va p.vs.length vc, sV f.name, .int .i64 f.params, .int .i64 f.regs, .int .i64 f.prio, .bool f.cl, .slice ca f.code.length cc] 142)) (.cells #[.int .i64 8, .int .i64 kd] 170)
        simp only [World.size_alloc] at h1
        have k1 := (hW.below.block _ (lt_of_block h1)).trans h1
        exact ⟨cell_of k0 rfl, cell_of k0 rfl, cell_of k0 rfl, cell_of k0 rfl, cell_of k0 rfl, cell_of k0 rfl, cell_of k0 rfl, cell_of k0 rfl, cell_of k0 rfl, cell_of k1 rfl, cell_of k1 rfl⟩)
      have HW := Lib.hid (show Ext w wk by rw [hwk]; exact (ext_alloc (ext_alloc (Below.refl _ _) _) _))
      have HE0 := Lib.hid (show Ext wk wk from Below.refl _ _)
      generalize f.name = fnm at *
      generalize f.params = fpa at *
      generalize f.regs = rg at *
      generalize f.prio = fpr at *
      generalize f.cl = fcl at *
      have x1 := cell_ext x0 HW.out
      clear x0
      go_enter Tryz.func111, Tryz.ntmps111
      go_wp2_with fail
      rw [← hwk]
      clear hwk
      refine (K.out _).mono ?_
      rintro _ v1 ⟨rfl, hv1⟩
      rw [hv1]
      clear hv1 v1
      obtain ⟨d0_0, d0_1, d0_2, d0_3, d0_4, d0_5, d0_6, d0_7, d0_8, d1_0, d1_1⟩ := BX.out _ HE0.out
      go_wp2
      go_quiet (fail)
      go_wp2
      go_ret
      exact ⟨by rw [HR.out]; rfl, Ext.drewN' (Ext.trans HW.out HE0.out)⟩

set_option maxRecDepth 100000 in
set_option maxHeartbeats 2000000 in
theorem operand_9 (p : Pg) (A : PA) (f : Fn) (ca : Option Addr) (cc : Nat) (kd n : Int) (w : World) (h : CkAt w p A f ca) (hn : i64 n) :
    Gives Tryz.prog 111 #[CKV p A f ca cc, .agg #[.int .i64 9, .int .i64 kd], .int .i64 n] w (.int .i64 (ckOpd p f ⟨9, kd⟩ n)) := by
  unfold Gives
  obtain ⟨fa, fc, oa, oc, va, vc⟩ := A
  dsimp only [CKV]
  obtain ⟨hn1, hn2⟩ := hn
  obtain ⟨hr1, hr2⟩ := h.regs
  have hlc := h.fwf.len
  have hlf := h.pg.wf.nf
  have hlo := h.pg.wf.no
  have hlv := h.pg.wf.nv
  cases hb : inB n 0 ((p.fs.length : Int) - 1) with
  | false =>
    have HR := Lib.hid (show ckOpd p f ⟨9, kd⟩ n = 2 by simp [ckOpd, hb])
    generalize ckOpd p f ⟨9, kd⟩ n = res at *
    have K := fun W => inside_any n p.fs.length W (by omega)
    simp only [insE_out hb] at K
    have K := Lib.hid K
    clear h hb
    obtain ⟨wk, hwk⟩ : ∃ W, W = ((w.alloc (.cells #[.slice fa p.fs.length fc, .slice oa p.os.length oc, .slice va p.vs.length vc, sV f.name, .int .i64 f.params, .int .i64 f.regs, .int .i64 f.prio, .bool f.cl, .slice ca f.code.length cc] 142)).alloc (.cells #[.int .i64 9, .int .i64 kd] 170)) := ⟨_, rfl⟩
    have BX := Lib.hid (show ∀ W, Ext wk W → (W.cell? ⟨w.heap.size, 0, none⟩ = some (.slice fa p.fs.length fc) ∧ W.cell? ⟨w.heap.size, 1, none⟩ = some (.slice oa p.os.length oc) ∧ W.cell? ⟨w.heap.size, 2, none⟩ = some (.slice va p.vs.length vc) ∧ W.cell? ⟨w.heap.size, 3, none⟩ = some (sV f.name) ∧ W.cell? ⟨w.heap.size, 4, none⟩ = some (.int .i64 f.params) ∧ W.cell? ⟨w.heap.size, 5, none⟩ = some (.int .i64 f.regs) ∧ W.cell? ⟨w.heap.size, 6, none⟩ = some (.int .i64 f.prio) ∧ W.cell? ⟨w.heap.size, 7, none⟩ = some (.bool f.cl) ∧ W.cell? ⟨w.heap.size, 8, none⟩ = some (.slice ca f.code.length cc) ∧ W.cell? ⟨w.heap.size + 1, 0, none⟩ = some (.int .i64 9) ∧ W.cell? ⟨w.heap.size + 1, 1, none⟩ = some (.int .i64 kd)) from fun W hW => by
      subst hwk
      have h0 := alloc_here w (.cells #[.slice fa p.fs.length fc, .slice oa p.os.length oc, .slice va p.vs.length vc, sV f.name, .int .i64 f.params, .int .i64 f.regs, .int .i64 f.prio, .bool f.cl, .slice ca f.code.length cc] 142)
      have h0 := (Below.heap_alloc _ (.cells #[.int .i64 9, .int .i64 kd] 170) _ (lt_of_block h0)).trans h0
      have k0 := (hW.below.block _ (lt_of_block h0)).trans h0
      have h1 := alloc_here (w.alloc (.cells #[.slice fa p.fs.length fc, .slice oa p.os.length oc, .slice va p.vs.length vc, sV f.name, .int .i64 f.params, .int .i64 f.regs, .int .i64 f.prio, .bool f.cl, .slice ca f.code.length cc] 142)) (.cells #[.int .i64 9, .int .i64 kd] 170)
      simp only [World.size_alloc] at h1
      have k1 := (hW.below.block _ (lt_of_block h1)).trans h1
      exact ⟨cell_of k0 rfl, cell_of k0 rfl, cell_of k0 rfl, cell_of k0 rfl, cell_of k0 rfl, cell_of k0 rfl, cell_of k0 rfl, cell_of k0 rfl, cell_of k0 rfl, cell_of k1 rfl, cell_of k1 rfl⟩)
    have HW := Lib.hid (show Ext w wk by rw [hwk]; exact (ext_alloc (ext_alloc (Below.refl _ _) _) _))
    have HE0 := Lib.hid (show Ext wk wk from Below.refl _ _)
    generalize f.name = fnm at *
    generalize f.params = fpa at *
    generalize f.regs = rg at *
    generalize f.prio = fpr at *
    generalize f.cl = fcl at *
    go_enter Tryz.func111, Tryz.ntmps111
    go_wp2_with fail
    rw [← hwk]
    clear hwk
    refine (K.out _).mono ?_
    rintro _ v1 ⟨rfl, hv1⟩
    rw [hv1]
    clear hv1 v1
    obtain ⟨d0_0, d0_1, d0_2, d0_3, d0_4, d0_5, d0_6, d0_7, d0_8, d1_0, d1_1⟩ := BX.out _ HE0.out
    go_wp2
    go_quiet (fail)
    go_wp2
    go_ret
    exact ⟨by rw [HR.out]; rfl, Ext.drewN' (Ext.trans HW.out HE0.out)⟩
  | true =>
    obtain ⟨m, rfl, hm⟩ := inB_nat hb
    obtain ⟨b', o', a', c', e', hcs, -⟩ := h.pg.fs m hm
    dsimp only at e'
    subst e'
    have HR0 := Lib.hid (show ckOpd p f ⟨9, kd⟩ m = (if (p.fs[m]).cl = true then 0 else 16) by simp [ckOpd, hb, hm, kindAt])
    generalize ckOpd p f ⟨9, kd⟩ m = res at *
    have K := fun W => inside_any m p.fs.length W (by omega)
    simp only [insE_in hb] at K
    have K := Lib.hid K
    have x0 := hcs.c4
    clear h hb hcs
    generalize (p.fs[m]).cl = tv at *
    by_cases hq : tv = true
    · have h1 := hq
      subst h1
      have HR := Lib.hid (show res = 0 by rw [HR0.out]; simp [hq])
      clear HR0
      obtain ⟨wk, hwk⟩ : ∃ W, W = ((w.alloc (.cells #[.slice (some ⟨b', o', none⟩) p.fs.length fc, .slice oa p.os.length oc, .slice va p.vs.length vc, sV f.name, .int .i64 f.params, .int .i64 f.regs, .int .i64 f.prio, .bool f.cl, .slice ca f.code.length cc] 142)).alloc (.cells #[.int .i64 9, .int .i64 kd] 170)) := ⟨_, rfl⟩
      have BX := Lib.hid (show ∀ W, Ext wk W → (W.cell? ⟨w.heap.size, 0, none⟩ = some (.slice (some ⟨b', o', none⟩) p.fs.length fc) ∧ W.cell? ⟨w.heap.size, 1, none⟩ = some (.slice oa p.os.length oc) ∧ W.cell? ⟨w.heap.size, 2, none⟩ = some (.slice va p.vs.length vc) ∧ W.cell? ⟨w.heap.size, 3, none⟩ = some (sV f.name) ∧ W.cell? ⟨w.heap.size, 4, none⟩ = some (.int .i64 f.params) ∧ W.cell? ⟨w.heap.size, 5, none⟩ = some (.int .i64 f.regs) ∧ W.cell? ⟨w.heap.size, 6, none⟩ = some (.int .i64 f.prio) ∧ W.cell? ⟨w.heap.size, 7, none⟩ = some (.bool f.cl) ∧ W.cell? ⟨w.heap.size, 8, none⟩ = some (.slice ca f.code.length cc) ∧ W.cell? ⟨w.heap.size + 1, 0, none⟩ = some (.int .i64 9) ∧ W.cell? ⟨w.heap.size + 1, 1, none⟩ = some (.int .i64 kd)) from fun W hW => by
        subst hwk
        have h0 := alloc_here w (.cells #[.slice (some ⟨b', o', none⟩) p.fs.length fc, .slice oa p.os.length oc, .slice va p.vs.length vc, sV f.name, .int .i64 f.params, .int .i64 f.regs, .int .i64 f.prio, .bool f.cl, .slice ca f.code.length cc] 142)
        have h0 := (Below.heap_alloc _ (.cells #[.int .i64 9, .int .i64 kd] 170) _ (lt_of_block h0)).trans h0
        have k0 := (hW.below.block _ (lt_of_block h0)).trans h0
        have h1 := alloc_here (w.alloc (.cells #[.slice (some ⟨b', o', none⟩) p.fs.length fc, .slice oa p.os.length oc, .slice va p.vs.length vc, sV f.name, .int .i64 f.params, .int .i64 f.regs, .int .i64 f.prio, .bool f.cl, .slice ca f.code.length cc] 142)) (.cells #[.int .i64 9, .int .i64 kd] 170)
        simp only [World.size_alloc] at h1
        have k1 := (hW.below.block _ (lt_of_block h1)).trans h1
        exact ⟨cell_of k0 rfl, cell_of k0 rfl, cell_of k0 rfl, cell_of k0 rfl, cell_of k0 rfl, cell_of k0 rfl, cell_of k0 rfl, cell_of k0 rfl, cell_of k0 rfl, cell_of k1 rfl, cell_of k1 rfl⟩)
      have HW := Lib.hid (show Ext w wk by rw [hwk]; exact (ext_alloc (ext_alloc (Below.refl _ _) _) _))
      have HE0 := Lib.hid (show Ext wk wk from Below.refl _ _)
      generalize f.name = fnm at *
      generalize f.params = fpa at *
      generalize f.regs = rg at *
      generalize f.prio = fpr at *
      generalize f.cl = fcl at *
      have x1 := cell_ext x0 HW.out
      clear x0
      go_enter Tryz.func111, Tryz.ntmps111
      go_wp2_with fail
      rw [← hwk]
      clear hwk
      refine (K.out _).mono ?_
      rintro _ v1 ⟨rfl, hv1⟩
      rw [hv1]
      clear hv1 v1
      obtain ⟨d0_0, d0_1, d0_2, d0_3, d0_4, d0_5, d0_6, d0_7, d0_8, d1_0, d1_1⟩ := BX.out _ HE0.out
      go_wp2
      go_quiet (fail)
      go_wp2
      go_ret
      exact ⟨by rw [HR.out]; rfl, Ext.drewN' (Ext.trans HW.out HE0.out)⟩
    · have h1 : tv = false := by simpa using hq
      subst h1
      have HR := Lib.hid (show res = 16 by rw [HR0.out]; simp [hq])
      clear HR0
      obtain ⟨wk, hwk⟩ : ∃ W, W = ((w.alloc (.cells #[.slice (some ⟨b', o', none⟩) p.fs.length fc, .slice oa p.os.length oc, .slice va p.vs.length vc, sV f.name, .int .i64 f.params, .int .i64 f.regs, .int .i64 f.prio, .bool f.cl, .slice ca f.code.length cc] 142)).alloc (.cells #[.int .i64 9, .int .i64 kd] 170)) := ⟨_, rfl⟩
      have BX := Lib.hid (show ∀ W, Ext wk W → (W.cell? ⟨w.heap.size, 0, none⟩ = some (.slice (some ⟨b', o', none⟩) p.fs.length fc) ∧ W.cell? ⟨w.heap.size, 1, none⟩ = some (.slice oa p.os.length oc) ∧ W.cell? ⟨w.heap.size, 2, none⟩ = some (.slice va p.vs.length vc) ∧ W.cell? ⟨w.heap.size, 3, none⟩ = some (sV f.name) ∧ W.cell? ⟨w.heap.size, 4, none⟩ = some (.int .i64 f.params) ∧ W.cell? ⟨w.heap.size, 5, none⟩ = some (.int .i64 f.regs) ∧ W.cell? ⟨w.heap.size, 6, none⟩ = some (.int .i64 f.prio) ∧ W.cell? ⟨w.heap.size, 7, none⟩ = some (.bool f.cl) ∧ W.cell? ⟨w.heap.size, 8, none⟩ = some (.slice ca f.code.length cc) ∧ W.cell? ⟨w.heap.size + 1, 0, none⟩ = some (.int .i64 9) ∧ W.cell? ⟨w.heap.size + 1, 1, none⟩ = some (.int .i64 kd)) from fun W hW => by
        subst hwk
        have h0 := alloc_here w (.cells #[.slice (some ⟨b', o', none⟩) p.fs.length fc, .slice oa p.os.length oc, .slice va p.vs.length vc, sV f.name, .int .i64 f.params, .int .i64 f.regs, .int .i64 f.prio, .bool f.cl, .slice ca f.code.length cc] 142)
        have h0 := (Below.heap_alloc _ (.cells #[.int .i64 9, .int .i64 kd] 170) _ (lt_of_block h0)).trans h0
        have k0 := (hW.below.block _ (lt_of_block h0)).trans h0
        have h1 := alloc_here (w.alloc (.cells #[.slice (some ⟨b', o', none⟩) p.fs.length fc, .slice oa p.os.length oc, .slice va p.vs.length vc, sV f.name, .int .i64 f.params, .int .i64 f.regs, .int .i64 f.prio, .bool f.cl, .slice ca f.code.length cc] 142)) (.cells #[.int .i64 9, .int .i64 kd] 170)
        simp only [World.size_alloc] at h1
        have k1 := (hW.below.block _ (lt_of_block h1)).trans h1
        exact ⟨cell_of k0 rfl, cell_of k0 rfl, cell_of k0 rfl, cell_of k0 rfl, cell_of k0 rfl, cell_of k0 rfl, cell_of k0 rfl, cell_of k0 rfl, cell_of k0 rfl, cell_of k1 rfl, cell_of k1 rfl⟩)
      have HW := Lib.hid (show Ext w wk by rw [hwk]; exact (ext_alloc (ext_alloc (Below.refl _ _) _) _))
      have HE0 := Lib.hid (show Ext wk wk from Below.refl _ _)
      generalize f.name = fnm at *
      generalize f.params = fpa at *
      generalize f.regs = rg at *
      generalize f.prio = fpr at *
      generalize f.cl = fcl at *
      have x1 := cell_ext x0 HW.out
      clear x0
      go_enter Tryz.func111, Tryz.ntmps111
      go_wp2_with fail
      rw [← hwk]
      clear hwk
      refine (K.out _).mono ?_
      rintro _ v1 ⟨rfl, hv1⟩
      rw [hv1]
      clear hv1 v1
      obtain ⟨d0_0, d0_1, d0_2, d0_3, d0_4, d0_5, d0_6, d0_7, d0_8, d1_0, d1_1⟩ := BX.out _ HE0.out
      go_wp2
      go_quiet (fail)
      go_wp2
      go_ret
      exact ⟨by rw [HR.out]; rfl, Ext.drewN' (Ext.trans HW.out HE0.out)⟩

set_option maxRecDepth 100000 in
set_option maxHeartbeats 2000000 in
theorem operand_10 (p : Pg) (A : PA) (f : Fn) (ca : Option Addr) (cc : Nat) (kd n : Int) (w : World) (h : CkAt w p A f ca) (hn : i64 n) :
    Gives Tryz.prog 111 #[CKV p A f ca cc, .agg #[.int .i64 10, .int .i64 kd], .int .i64 n] w (.int .i64 (ckOpd p f ⟨10, kd⟩ n)) := by
  unfold Gives
  obtain ⟨fa, fc, oa, oc, va, vc⟩ := A
  dsimp only [CKV]
  obtain ⟨hn1, hn2⟩ := hn
  obtain ⟨hr1, hr2⟩ := h.regs
  have hlc := h.fwf.len
  have hlf := h.pg.wf.nf
  have hlo := h.pg.wf.no
  have hlv := h.pg.wf.nv
  cases hb : inB n 0 ((p.vs.length : Int) - 1) with
  | true =>
    have HR := Lib.hid (show ckOpd p f ⟨10, kd⟩ n = 0 by simp [ckOpd, hb])

    generalize ckOpd p f ⟨10, kd⟩ n = res at *
    have K := fun W => inside_any n p.vs.length W (by omega)
    simp only [insE_in hb] at K
    have K := Lib.hid K
    clear h hb
    obtain ⟨wk, hwk⟩ : ∃ W, W = ((w.alloc (.cells #[.slice fa p.fs.length fc, .slice oa p.os.length oc, .slice va p.vs.length vc, sV f.name, .int .i64 f.params, .int .i64 f.regs, .int .i64 f.prio, .bool f.cl, .slice ca f.code.length cc] 142)).alloc (.cells #[.int .i64 10, .int .i64 kd] 170)) := ⟨_, rfl⟩
    have BX := Lib.hid (show ∀ W, Ext wk W → (W.cell? ⟨w.heap.size, 0, none⟩ = some (.slice fa p.fs.length fc) ∧ W.cell? ⟨w.heap.size, 1, none⟩ = some (.slice oa p.os.length oc) ∧ W.cell? ⟨w.heap.size, 2, none⟩ = some (.slice va p.vs.length vc) ∧ W.cell? ⟨w.heap.size, 3, none⟩ = some (sV f.name) ∧ W.cell? ⟨w.heap.size, 4, none⟩ = some (.int .i64 f.params) ∧ W.cell? ⟨w.heap.size, 5, none⟩ = some (.int .i64 f.regs) ∧ W.cell? ⟨w.heap.size, 6, none⟩ = some (.int .i64 f.prio) ∧ W.cell? ⟨w.heap.size, 7, none⟩ = some (.bool f.cl) ∧ W.cell? ⟨w.heap.size, 8, none⟩ = some (.slice ca f.code.length cc) ∧ W.cell? ⟨w.heap.size + 1, 0, none⟩ = some (.int .i64 10) ∧ W.cell? ⟨w.heap.size + 1, 1, none⟩ = some (.int .i64 kd)) from fun W hW => by
      subst hwk
      have h0 := alloc_here w (.cells #[.slice fa p.fs.length fc, .slice oa p.os.length oc, .slice va p.vs.length vc, sV f.name, .int .i64 f.params, .int .i64 f.regs, .int .i64 f.prio, .bool f.cl, .slice ca f.code.length cc] 142)
      have h0 := (Below.heap_alloc _ (.cells #[.int .i64 10, .int .i64 kd] 170) _ (lt_of_block h0)).trans h0
      have k0 := (hW.below.block _ (lt_of_block h0)).trans h0
      have h1 := alloc_here (w.alloc (.cells #[.slice fa p.fs.length fc, .slice oa p.os.length oc, .slice va p.vs.length vc, sV f.name, .int .i64 f.params, .int .i64 f.regs, .int .i64 f.prio, .bool f.cl, .slice ca f.code.length cc] 142)) (.cells #[.int .i64 10, .int .i64 kd] 170)
      simp only [World.size_alloc] at h1
      have k1 := (hW.below.block _ (lt_of_block h1)).trans h1
      exact ⟨cell_of k0 rfl, cell_of k0 rfl, cell_of k0 rfl, cell_of k0 rfl, cell_of k0 rfl, cell_of k0 rfl, cell_of k0 rfl, cell_of k0 rfl, cell_of k0 rfl, cell_of k1 rfl, cell_of k1 rfl⟩)
    have HW := Lib.hid (show Ext w wk by rw [hwk]; exact (ext_alloc (ext_alloc (Below.refl _ _) _) _))
    have HE0 := Lib.hid (show Ext wk wk from Below.refl _ _)
    generalize f.name = fnm at *
    generalize f.params = fpa at *
    generalize f.regs = rg at *
    generalize f.prio = fpr at *
    generalize f.cl = fcl at *
    go_enter Tryz.func111, Tryz.ntmps111
    go_wp2_with fail
    rw [← hwk]
    clear hwk
    refine (K.out _).mono ?_
    rintro _ v1 ⟨rfl, hv1⟩
    rw [hv1]
    clear hv1 v1
    obtain ⟨d0_0, d0_1, d0_2, d0_3, d0_4, d0_5, d0_6, d0_7, d0_8, d1_0, d1_1⟩ := BX.out _ HE0.out
    go_wp2
    go_ret
    exact ⟨by rw [HR.out]; rfl, Ext.trans HW.out HE0.out⟩
  | false =>
    have HR := Lib.hid (show ckOpd p f ⟨10, kd⟩ n = 2 by simp [ckOpd, hb])

    generalize ckOpd p f ⟨10, kd⟩ n = res at *
    have K := fun W => inside_any n p.vs.length W (by omega)
    simp only [insE_out hb] at K
    have K := Lib.hid K
    clear h hb
    obtain ⟨wk, hwk⟩ : ∃ W, W = ((w.alloc (.cells #[.slice fa p.fs.length fc, .slice oa p.os.length oc, .slice va p.vs.length vc, sV f.name, .int .i64 f.params, .int .i64 f.regs, .int .i64 f.prio, .bool f.cl, .slice ca f.code.length cc] 142)).alloc (.cells #[.int .i64 10, .int .i64 kd] 170)) := ⟨_, rfl⟩
    have BX := Lib.hid (show ∀ W, Ext wk W → (W.cell? ⟨w.heap.size, 0, none⟩ = some (.slice fa p.fs.length fc) ∧ W.cell? ⟨w.heap.size, 1, none⟩ = some (.slice oa p.os.length oc) ∧ W.cell? ⟨w.heap.size, 2, none⟩ = some (.slice va p.vs.length vc) ∧ W.cell? ⟨w.heap.size, 3, none⟩ = some (sV f.name) ∧ W.cell? ⟨w.heap.size, 4, none⟩ = some (.int .i64 f.params) ∧ W.cell? ⟨w.heap.size, 5, none⟩ = some (.int .i64 f.regs) ∧ W.cell? ⟨w.heap.size, 6, none⟩ = some (.int .i64 f.prio) ∧ W.cell? ⟨w.heap.size, 7, none⟩ = some (.bool f.cl) ∧ W.cell? ⟨w.heap.size, 8, none⟩ = some (.slice ca f.code.length cc) ∧ W.cell? ⟨w.heap.size + 1, 0, none⟩ = some (.int .i64 10) ∧ W.cell? ⟨w.heap.size + 1, 1, none⟩ = some (.int .i64 kd)) from fun W hW => by
      subst hwk
      have h0 := alloc_here w (.cells #[.slice fa p.fs.length fc, .slice oa p.os.length oc, .slice va p.vs.length vc, sV f.name, .int .i64 f.params, .int .i64 f.regs, .int .i64 f.prio, .bool f.cl, .slice ca f.code.length cc] 142)
      have h0 := (Below.heap_alloc _ (.cells #[.int .i64 10, .int .i64 kd] 170) _ (lt_of_block h0)).trans h0
      have k0 := (hW.below.block _ (lt_of_block h0)).trans h0
      have h1 := alloc_here (w.alloc (.cells #[.slice fa p.fs.length fc, .slice oa p.os.length oc, .slice va p.vs.length vc, sV f.name, .int .i64 f.params, .int .i64 f.regs, .int .i64 f.prio, .bool f.cl, .slice ca f.code.length cc] 142)) (.cells #[.int .i64 10, .int .i64 kd] 170)
      simp only [World.size_alloc] at h1
      have k1 := (hW.below.block _ (lt_of_block h1)).trans h1
      exact ⟨cell_of k0 rfl, cell_of k0 rfl, cell_of k0 rfl, cell_of k0 rfl, cell_of k0 rfl, cell_of k0 rfl, cell_of k0 rfl, cell_of k0 rfl, cell_of k0 rfl, cell_of k1 rfl, cell_of k1 rfl⟩)
    have HW := Lib.hid (show Ext w wk by rw [hwk]; exact (ext_alloc (ext_alloc (Below.refl _ _) _) _))
    have HE0 := Lib.hid (show Ext wk wk from Below.refl _ _)
    generalize f.name = fnm at *
    generalize f.params = fpa at *
    generalize f.regs = rg at *
    generalize f.prio = fpr at *
    generalize f.cl = fcl at *
    go_enter Tryz.func111, Tryz.ntmps111
    go_wp2_with fail
    rw [← hwk]
    clear hwk
    refine (K.out _).mono ?_
    rintro _ v1 ⟨rfl, hv1⟩
    rw [hv1]
    clear hv1 v1
    obtain ⟨d0_0, d0_1, d0_2, d0_3, d0_4, d0_5, d0_6, d0_7, d0_8, d1_0, d1_1⟩ := BX.out _ HE0.out
    go_wp2
    go_ret
    exact ⟨by rw [HR.out]; rfl, Ext.trans HW.out HE0.out⟩

set_option maxRecDepth 100000 in
set_option maxHeartbeats 2000000 in
theorem operand_11 (p : Pg) (A : PA) (f : Fn) (ca : Option Addr) (cc : Nat) (kd n : Int) (w : World) (h : CkAt w p A f ca) (hn : i64 n) :
    Gives Tryz.prog 111 #[CKV p A f ca cc, .agg #[.int .i64 11, .int .i64 kd], .int .i64 n] w (.int .i64 (ckOpd p f ⟨11, kd⟩ n)) := by
  unfold Gives
  obtain ⟨fa, fc, oa, oc, va, vc⟩ := A
  dsimp only [CKV]
  obtain ⟨hn1, hn2⟩ := hn
  obtain ⟨hr1, hr2⟩ := h.regs
  have hlc := h.fwf.len
  have hlf := h.pg.wf.nf
  have hlo := h.pg.wf.no
  have hlv := h.pg.wf.nv
  cases hb : inB n 0 ((p.vs.length : Int) - 1) with
  | false =>
    have HR := Lib.hid (show ckOpd p f ⟨11, kd⟩ n = 2 by simp [ckOpd, hb])
    generalize ckOpd p f ⟨11, kd⟩ n = res at *
    have K := fun W => inside_any n p.vs.length W (by omega)
    simp only [insE_out hb] at K
    have K := Lib.hid K
    clear h hb
    obtain ⟨wk, hwk⟩ : ∃ W, W = ((w.alloc (.cells #[.slice fa p.fs.length fc, .slice oa p.os.length oc, .slice va p.vs.length vc, sV f.name, .int .i64 f.params, .int .i64 f.regs, .int .i64 f.prio, .bool f.cl, .slice ca f.code.length cc] 142)).alloc (.cells #[.int .i64 11, .int .i64 kd] 170)) := ⟨_, rfl⟩
    have BX := Lib.hid (show ∀ W, Ext wk W → (W.cell? ⟨w.heap.size, 0, none⟩ = some (.slice fa p.fs.length fc) ∧ W.cell? ⟨w.heap.size, 1, none⟩ = some (.slice oa p.os.length oc) ∧ W.cell? ⟨w.heap.size, 2, none⟩ = some (.slice va p.vs.length vc) ∧ W.cell? ⟨w.heap.size, 3, none⟩ = some (sV f.name) ∧ W.cell? ⟨w.heap.size, 4, none⟩ = some (.int .i64 f.params) ∧ W.cell? ⟨w.heap.size, 5, none⟩ = some (.int .i64 f.regs) ∧ W.cell? ⟨w.heap.size, 6, none⟩ = some (.int .i64 f.prio) ∧ W.cell? ⟨w.heap.size, 7, none⟩ = some (.bool f.cl) ∧ W.cell? ⟨w.heap.size, 8, none⟩ = some (.slice ca f.code.length cc) ∧ W.cell? ⟨w.heap.size + 1, 0, none⟩ = some (.int .i64 11) ∧ W.cell? ⟨w.heap.size + 1, 1, none⟩ = some (.int .i64 kd)) from fun W hW => by
      subst hwk
      have h0 := alloc_here w (.cells #[.slice fa p.fs.length fc, .slice oa p.os.length oc, .slice va p.vs.length vc, sV f.name, .int .i64 f.params, .int .i64 f.regs, .int .i64 f.prio, .bool f.cl, .slice ca f.code.length cc] 142)
      have h0 := (Below.heap_alloc _ (.cells #[.int .i64 11, .int .i64 kd] 170) _ (lt_of_block h0)).trans h0
      have k0 := (hW.below.block _ (lt_of_block h0)).trans h0
      have h1 := alloc_here (w.alloc (.cells #[.slice fa p.fs.length fc, .slice oa p.os.length oc, .slice va p.vs.length vc, sV f.name, .int .i64 f.params, .int .i64 f.regs, .int .i64 f.prio, .bool f.cl, .slice ca f.code.length cc] 142)) (.cells #[.int .i64 11, .int .i64 kd] 170)
      simp only [World.size_alloc] at h1
      have k1 := (hW.below.block _ (lt_of_block h1)).trans h1
      exact ⟨cell_of k0 rfl, cell_of k0 rfl, cell_of k0 rfl, cell_of k0 rfl, cell_of k0 rfl, cell_of k0 rfl, cell_of k0 rfl, cell_of k0 rfl, cell_of k0 rfl, cell_of k1 rfl, cell_of k1 rfl⟩)
    have HW := Lib.hid (show Ext w wk by rw [hwk]; exact (ext_alloc (ext_alloc (Below.refl _ _) _) _))
    have HE0 := Lib.hid (show Ext wk wk from Below.refl _ _)
    generalize f.name = fnm at *
    generalize f.params = fpa at *
    generalize f.regs = rg at *
    generalize f.prio = fpr at *
    generalize f.cl = fcl at *
    go_enter Tryz.func111, Tryz.ntmps111
    go_wp2_with fail
    rw [← hwk]
    clear hwk
    refine (K.out _).mono ?_
    rintro _ v1 ⟨rfl, hv1⟩
    rw [hv1]
    clear hv1 v1
    obtain ⟨d0_0, d0_1, d0_2, d0_3, d0_4, d0_5, d0_6, d0_7, d0_8, d1_0, d1_1⟩ := BX.out _ HE0.out
    go_wp2
    go_ret
    exact ⟨by rw [HR.out]; rfl, Ext.trans HW.out HE0.out⟩
  | true =>
    obtain ⟨m, rfl, hm⟩ := inB_nat hb
    obtain ⟨b', o', e', hcs⟩ := h.pg.vs m hm
    dsimp only at e'
    subst e'
    have HR0 := Lib.hid (show ckOpd p f ⟨11, kd⟩ m = (if (p.vs[m]).atomic = true then 0 else 16) by simp [ckOpd, hb, hm, kindAt])
    generalize ckOpd p f ⟨11, kd⟩ m = res at *
    have K := fun W => inside_any m p.vs.length W (by omega)
    simp only [insE_in hb] at K
    have K := Lib.hid K
    have x0 := hcs.c2
    clear h hb hcs
    generalize (p.vs[m]).atomic = tv at *
    by_cases hq : tv = true
    · have h1 := hq
      subst h1
      have HR := Lib.hid (show res = 0 by rw [HR0.out]; simp [hq])
      clear HR0
      obtain ⟨wk, hwk⟩ : ∃ W, W = ((w.alloc (.cells #[.slice fa p.fs.length fc, .slice oa p.os.length oc, .slice (some ⟨b', o', none⟩) p.vs.length vc, sV f.name, .int .i64 f.params, .int .i64 f.regs, .int .i64 f.prio, .bool f.cl, .slice ca f.code.length cc] 142)).alloc (.cells #[.int .i64 11, .int .i64 kd] 170)) := ⟨_, rfl⟩
      have BX := Lib.hid (show ∀ W, Ext wk W → (W.cell? ⟨w.heap.size, 0, none⟩ = some (.slice fa p.fs.length fc) ∧ W.cell? ⟨w.heap.size, 1, none⟩ = some (.slice oa p.os.length oc) ∧ W.cell? ⟨w.heap.size, 2, none⟩ = some (.slice (some ⟨b', o', none⟩) p.vs.length vc) ∧ W.cell? ⟨w.heap.size, 3, none⟩ = some (sV f.name) ∧ W.cell? ⟨w.heap.size, 4, none⟩ = some (.int .i64 f.params) ∧ W.cell? ⟨w.heap.size, 5, none⟩ = some (.int .i64 f.regs) ∧ W.cell? ⟨w.heap.size, 6, none⟩ = some (.int .i64 f.prio) ∧ W.cell? ⟨w.heap.size, 7, none⟩ = some (.bool f.cl) ∧ W.cell? ⟨w.heap.size, 8, none⟩ = some (.slice ca f.code.length cc) ∧ W.cell? ⟨w.heap.size + 1, 0, none⟩ = some (.int .i64 11) ∧ W.cell? ⟨w.heap.size + 1, 1, none⟩ = some (.int .i64 kd)) from fun W hW => by
        subst hwk
        have h0 := alloc_here w (.cells #[.slice fa p.fs.length fc, .slice oa p.os.length oc, .slice (some ⟨b', o', none⟩) p.vs.length vc, sV f.name, .int .i64 f.params, .int .i64 f.regs, .int .i64 f.prio, .bool f.cl, .slice ca f.code.length cc] 142)
        have h0 := (Below.heap_alloc _ (.cells #[.int .i64 11, .int .i64 kd] 170) _ (lt_of_block h0)).trans h0
        have k0 := (hW.below.block _ (lt_of_block h0)).trans h0
        have h1 := alloc_here (w.alloc (.cells #[.slice fa p.fs.length fc, .slice oa p.os.length oc, .slice (some ⟨b', o', none⟩) p.vs.length vc, sV f.name, .int .i64 f.params, .int .i64 f.regs, .int .i64 f.prio, .bool f.cl, .slice ca f.code.length cc] 142)) (.cells #[.int .i64 11, .int .i64 kd] 170)
        simp only [World.size_alloc] at h1
        have k1 := (hW.below.block _ (lt_of_block h1)).trans h1
        exact ⟨cell_of k0 rfl, cell_of k0 rfl, cell_of k0 rfl, cell_of k0 rfl, cell_of k0 rfl, cell_of k0 rfl, cell_of k0 rfl, cell_of k0 rfl, cell_of k0 rfl, cell_of k1 rfl, cell_of k1 rfl⟩)
      have HW := Lib.hid (show Ext w wk by rw [hwk]; exact (ext_alloc (ext_alloc (Below.refl _ _) _) _))
      have HE0 := Lib.hid (show Ext wk wk from Below.refl _ _)
      generalize f.name = fnm at *
      generalize f.params = fpa at *
      generalize f.regs = rg at *
      generalize f.prio = fpr at *
      generalize f.cl = fcl at *
      have x1 := cell_ext x0 HW.out
      clear x0
      go_enter Tryz.func111, Tryz.ntmps111
      go_wp2_with fail
      rw [← hwk]
      clear hwk
      refine (K.out _).mono ?_
      rintro _ v1 ⟨rfl, hv1⟩
      rw [hv1]
      clear hv1 v1
      obtain ⟨d0_0, d0_1, d0_2, d0_3, d0_4, d0_5, d0_6, d0_7, d0_8, d1_0, d1_1⟩ := BX.out _ HE0.out
      go_wp2
      go_ret
      exact ⟨by rw [HR.out]; rfl, Ext.trans HW.out HE0.out⟩
    · have h1 : tv = false := by simpa using hq
      subst h1
      have HR := Lib.hid (show res = 16 by rw [HR0.out]; simp [hq])
      clear HR0
      obtain ⟨wk, hwk⟩ : ∃ W, W = ((w.alloc (.cells #[.slice fa p.fs.length fc, .slice oa p.os.length oc, .slice (some ⟨b', o', none⟩) p.vs.length vc, sV f.name, .int .i64 f.params, .int .i64 f.regs, .int .i64 f.prio, .bool f.cl, .slice ca f.code.length cc] 142)).alloc (.cells #[.int .i64 11, .int .i64 kd] 170)) := ⟨_, rfl⟩
      have BX := Lib.hid (show ∀ W, Ext wk W → (W.cell? ⟨w.heap.size, 0, none⟩ = some (.slice fa p.fs.length fc) ∧ W.cell? ⟨w.heap.size, 1, none⟩ = some (.slice oa p.os.length oc) ∧ W.cell? ⟨w.heap.size, 2, none⟩ = some (.slice (some ⟨b', o', none⟩) p.vs.length vc) ∧ W.cell? ⟨w.heap.size, 3, none⟩ = some (sV f.name) ∧ W.cell? ⟨w.heap.size, 4, none⟩ = some (.int .i64 f.params) ∧ W.cell? ⟨w.heap.size, 5, none⟩ = some (.int .i64 f.regs) ∧ W.cell? ⟨w.heap.size, 6, none⟩ = some (.int .i64 f.prio) ∧ W.cell? ⟨w.heap.size, 7, none⟩ = some (.bool f.cl) ∧ W.cell? ⟨w.heap.size, 8, none⟩ = some (.slice ca f.code.length cc) ∧ W.cell? ⟨w.heap.size + 1, 0, none⟩ = some (.int .i64 11) ∧ W.cell? ⟨w.heap.size + 1, 1, none⟩ = some (.int .i64 kd)) from fun W hW => by
        subst hwk
        have h0 := alloc_here w (.cells #[.slice fa p.fs.length fc, .slice oa p.os.length oc, .slice (some ⟨b', o', none⟩) p.vs.length vc, sV f.name, .int .i64 f.params, .int .i64 f.regs, .int .i64 f.prio, .bool f.cl, .slice ca f.code.length cc] 142)
        have h0 := (Below.heap_alloc _ (.cells #[.int .i64 11, .int .i64 kd] 170) _ (lt_of_block h0)).trans h0
        have k0 := (hW.below.block _ (lt_of_block h0)).trans h0
        have h1 := alloc_here (w.alloc (.cells #[.slice fa p.fs.length fc, .slice oa p.os.length oc, .slice (some ⟨b', o', none⟩) p.vs.length vc, sV f.name, .int .i64 f.params, .int .i64 f.regs, .int .i64 f.prio, .bool f.cl, .slice ca f.code.length cc] 142)) (.cells #[.int .i64 11, .int .i64 kd] 170)
        simp only [World.size_alloc] at h1
        have k1 := (hW.below.block _ (lt_of_block h1)).trans h1
        exact ⟨cell_of k0 rfl, cell_of k0 rfl, cell_of k0 rfl, cell_of k0 rfl, cell_of k0 rfl, cell_of k0 rfl, cell_of k0 rfl, cell_of k0 rfl, cell_of k0 rfl, cell_of k1 rfl, cell_of k1 rfl⟩)
      have HW := Lib.hid (show Ext w wk by rw [hwk]; exact (ext_alloc (ext_alloc (Below.refl _ _) _) _))
      have HE0 := Lib.hid (show Ext wk wk from Below.refl _ _)
      generalize f.name = fnm at *
      generalize f.params = fpa at *
      generalize f.regs = rg at *
      generalize f.prio = fpr at *
      generalize f.cl = fcl at *
      have x1 := cell_ext x0 HW.out
      clear x0
      go_enter Tryz.func111, Tryz.ntmps111
      go_wp2_with fail
      rw [← hwk]
      clear hwk
      refine (K.out _).mono ?_
      rintro _ v1 ⟨rfl, hv1⟩
      rw [hv1]
      clear hv1 v1
      obtain ⟨d0_0, d0_1, d0_2, d0_3, d0_4, d0_5, d0_6, d0_7, d0_8, d1_0, d1_1⟩ := BX.out _ HE0.out
      go_wp2
      go_ret
      exact ⟨by rw [HR.out]; rfl, Ext.trans HW.out HE0.out⟩

set_option maxRecDepth 100000 in
set_option maxHeartbeats 2000000 in
theorem operand_12 (p : Pg) (A : PA) (f : Fn) (ca : Option Addr) (cc : Nat) (kd n : Int) (w : World) (h : CkAt w p A f ca) (hn : i64 n) :
    Gives Tryz.prog 111 #[CKV p A f ca cc, .agg #[.int .i64 12, .int .i64 kd], .int .i64 n] w (.int .i64 (ckOpd p f ⟨12, kd⟩ n)) := by
  unfold Gives
  obtain ⟨fa, fc, oa, oc, va, vc⟩ := A
  dsimp only [CKV]
  obtain ⟨hn1, hn2⟩ := hn
  obtain ⟨hr1, hr2⟩ := h.regs
  have hlc := h.fwf.len
  have hlf := h.pg.wf.nf
  have hlo := h.pg.wf.no
  have hlv := h.pg.wf.nv
  cases hb : inB n 0 ((p.os.length : Int) - 1) with
  | false =>
    have HR := Lib.hid (show ckOpd p f ⟨12, kd⟩ n = 2 by simp [ckOpd, hb])
    generalize ckOpd p f ⟨12, kd⟩ n = res at *
    have K := fun W => inside_any n p.os.length W (by omega)
    simp only [insE_out hb] at K
    have K := Lib.hid K
    clear h hb
    obtain ⟨wk, hwk⟩ : ∃ W, W = ((w.alloc (.cells #[.slice fa p.fs.length fc, .slice oa p.os.length oc, .slice va p.vs.length vc, sV f.name, .int .i64 f.params, .int .i64 f.regs, .int .i64 f.prio, .bool f.cl, .slice ca f.code.length cc] 142)).alloc (.cells #[.int .i64 12, .int .i64 kd] 170)) := ⟨_, rfl⟩
    have BX := Lib.hid (show ∀ W, Ext wk W → (W.cell? ⟨w.heap.size, 0, none⟩ = some (.slice fa p.fs.length fc) ∧ W.cell? ⟨w.heap.size, 1, none⟩ = some (.slice oa p.os.length oc) ∧ W.cell? ⟨w.heap.size, 2, none⟩ = some (.slice va p.vs.length vc) ∧ W.cell? ⟨w.heap.size, 3, none⟩ = some (sV f.name) ∧ W.cell? ⟨w.heap.size, 4, none⟩ = some (.int .i64 f.params) ∧ W.cell? ⟨w.heap.size, 5, none⟩ = some (.int .i64 f.regs) ∧ W.cell? ⟨w.heap.size, 6, none⟩ = some (.int .i64 f.prio) ∧ W.cell? ⟨w.heap.size, 7, none⟩ = some (.bool f.cl) ∧ W.cell? ⟨w.heap.size, 8, none⟩ = some (.slice ca f.code.length cc) ∧ W.cell? ⟨w.heap.size + 1, 0, none⟩ = some (.int .i64 12) ∧ W.cell? ⟨w.heap.size + 1, 1, none⟩ = some (.int .i64 kd)) from fun W hW => by
      subst hwk
      have h0 := alloc_here w (.cells #[.slice fa p.fs.length fc, .slice oa p.os.length oc, .slice va p.vs.length vc, sV f.name, .int .i64 f.params, .int .i64 f.regs, .int .i64 f.prio, .bool f.cl, .slice ca f.code.length cc] 142)
      have h0 := (Below.heap_alloc _ (.cells #[.int .i64 12, .int .i64 kd] 170) _ (lt_of_block h0)).trans h0
      have k0 := (hW.below.block _ (lt_of_block h0)).trans h0
      have h1 := alloc_here (w.alloc (.cells #[.slice fa p.fs.length fc, .slice oa p.os.length oc, .slice va p.vs.length vc, sV f.name, .int .i64 f.params, .int .i64 f.regs, .int .i64 f.prio, .bool f.cl, .slice ca f.code.length cc] 142)) (.cells #[.int .i64 12, .int .i64 kd] 170)
      simp only [World.size_alloc] at h1
      have k1 := (hW.below.block _ (lt_of_block h1)).trans h1
      exact ⟨cell_of k0 rfl, cell_of k0 rfl, cell_of k0 rfl, cell_of k0 rfl, cell_of k0 rfl, cell_of k0 rfl, cell_of k0 rfl, cell_of k0 rfl, cell_of k0 rfl, cell_of k1 rfl, cell_of k1 rfl⟩)
    have HW := Lib.hid (show Ext w wk by rw [hwk]; exact (ext_alloc (ext_alloc (Below.refl _ _) _) _))
    have HE0 := Lib.hid (show Ext wk wk from Below.refl _ _)
    generalize f.name = fnm at *
    generalize f.params = fpa at *
    generalize f.regs = rg at *
    generalize f.prio = fpr at *
    generalize f.cl = fcl at *
    go_enter Tryz.func111, Tryz.ntmps111
    go_wp2_with fail
    rw [← hwk]
    clear hwk
    refine (K.out _).mono ?_
    rintro _ v1 ⟨rfl, hv1⟩
    rw [hv1]
    clear hv1 v1
    obtain ⟨d0_0, d0_1, d0_2, d0_3, d0_4, d0_5, d0_6, d0_7, d0_8, d1_0, d1_1⟩ := BX.out _ HE0.out
    go_wp2
    go_quiet (fail)
    go_wp2
    go_ret
    exact ⟨by rw [HR.out]; rfl, Ext.drewN' (Ext.trans HW.out HE0.out)⟩
  | true =>
    obtain ⟨m, rfl, hm⟩ := inB_nat hb
    obtain ⟨b', o', e', hcs⟩ := h.pg.os m hm
    dsimp only at e'
    subst e'
    have HR0 := Lib.hid (show ckOpd p f ⟨12, kd⟩ m = (if (p.os[m]).kind = kd then 0 else 8) by simp [ckOpd, hb, hm, kindAt])
    generalize ckOpd p f ⟨12, kd⟩ m = res at *
    have K := fun W => inside_any m p.os.length W (by omega)
    simp only [insE_in hb] at K
    have K := Lib.hid K
    have x0 := hcs.c1
    clear h hb hcs
    generalize (p.os[m]).kind = tv at *
    by_cases hq : tv = kd
    · have h1 : (tv != kd) = false := by simpa using hq
      have HR := Lib.hid (show res = 0 by rw [HR0.out]; simp [hq])
      clear HR0
      clear hq
      obtain ⟨wk, hwk⟩ : ∃ W, W = ((w.alloc (.cells #[.slice fa p.fs.length fc, .slice (some ⟨b', o', none⟩) p.os.length oc, .slice va p.vs.length vc, sV f.name, .int .i64 f.params, .int .i64 f.regs, .int .i64 f.prio, .bool f.cl, .slice ca f.code.length cc] 142)).alloc (.cells #[.int .i64 12, .int .i64 kd] 170)) := ⟨_, rfl⟩
      have BX := Lib.hid (show ∀ W, Ext wk W → (W.cell? ⟨w.heap.size, 0, none⟩ = some (.slice fa p.fs.length fc) ∧ W.cell? ⟨w.heap.size, 1, none⟩ = some (.slice (some ⟨b', o', none⟩) p.os.length oc) ∧ W.cell? ⟨w.heap.size, 2, none⟩ = some (.slice va p.vs.length vc) ∧ W.cell? ⟨w.heap.size, 3, none⟩ = some (sV f.name) ∧ W.cell? ⟨w.heap.size, 4, none⟩ = some (.int .i64 f.params) ∧ W.cell? ⟨w.heap.size, 5, none⟩ = some (.int .i64 f.regs) ∧ W.cell? ⟨w.heap.size, 6, none⟩ = some (.int .i64 f.prio) ∧ W.cell? ⟨w.heap.size, 7, none⟩ = some (.bool f.cl) ∧ W.cell? ⟨w.heap.size, 8, none⟩ = some (.slice ca f.code.length cc) ∧ W.cell? ⟨w.heap.size + 1, 0, none⟩ = some (.int .i64 12) ∧ W.cell? ⟨w.heap.size + 1, 1, none⟩ = some (.int .i64 kd)) from fun W hW => by
        subst hwk
        have h0 := alloc_here w (.cells #[.slice fa p.fs.length fc, .slice (some ⟨b', o', none⟩) p.os.length oc, .slice va p.vs.length vc, sV f.name, .int .i64 f.params, .int .i64 f.regs, .int .i64 f.prio, .bool f.cl, .slice ca f.code.length cc] 142)
        have h0 := (Below.heap_alloc _ (.cells #[.int .i64 12, .int .i64 kd] 170) _ (lt_of_block h0)).trans h0
        have k0 := (hW.below.block _ (lt_of_block h0)).trans h0
        have h1 := alloc_here (w.alloc (.cells #[.slice fa p.fs.length fc, .slice (some ⟨b', o', none⟩) p.os.length oc, .slice va p.vs.length vc, sV f.name, .int .i64 f.params, .int .i64 f.regs, .int .i64 f.prio, .bool f.cl, .slice ca f.code.length cc] 142)) (.cells #[.int .i64 12, .int .i64 kd] 170)
        simp only [World.size_alloc] at h1
        have k1 := (hW.below.block _ (lt_of_block h1)).trans h1
        exact ⟨cell_of k0 rfl, cell_of k0 rfl, cell_of k0 rfl, cell_of k0 rfl, cell_of k0 rfl, cell_of k0 rfl, cell_of k0 rfl, cell_of k0 rfl, cell_of k0 rfl, cell_of k1 rfl, cell_of k1 rfl⟩)
      have HW := Lib.hid (show Ext w wk by rw [hwk]; exact (ext_alloc (ext_alloc (Below.refl _ _) _) _))
      have HE0 := Lib.hid (show Ext wk wk from Below.refl _ _)
      generalize f.name = fnm at *
      generalize f.params = fpa at *
      generalize f.regs = rg at *
      generalize f.prio = fpr at *
      generalize f.cl = fcl at *
      have x1 := cell_ext x0 HW.out
      clear x0
      go_enter Tryz.func111, Tryz.ntmps111
      go_wp2_with fail
      rw [← hwk]
      clear hwk
      refine (K.out _).mono ?_
      rintro _ v1 ⟨rfl, hv1⟩
      rw [hv1]
      clear hv1 v1
      obtain ⟨d0_0, d0_1, d0_2, d0_3, d0_4, d0_5, d0_6, d0_7, d0_8, d1_0, d1_1⟩ := BX.out _ HE0.out
      go_wp2
      go_quiet (fail)
      go_wp2
      go_ret
      exact ⟨by rw [HR.out]; rfl, Ext.drewN' (Ext.trans HW.out HE0.out)⟩
    · have h1 : (tv != kd) = true := by simpa using hq
      have HR := Lib.hid (show res = 8 by rw [HR0.out]; simp [hq])
      clear HR0
      clear hq
      obtain ⟨wk, hwk⟩ : ∃ W, W = ((w.alloc (.cells #[.slice fa p.fs.length fc, .slice (some ⟨b', o', none⟩) p.os.length oc, .slice va p.vs.length vc, sV f.name, .int .i64 f.params, .int .i64 f.regs, .int .i64 f.prio, .bool f.cl, .slice ca f.code.length cc] 142)).alloc (.cells #[.int .i64 12, .int .i64 kd] 170)) := ⟨_, rfl⟩
      have BX := Lib.hid (show ∀ W, Ext wk W → (W.cell? ⟨w.heap.size, 0, none⟩ = some (.slice fa p.fs.length fc) ∧ W.cell? ⟨w.heap.size, 1, none⟩ = some (.slice (some ⟨b', o', none⟩) p.os.length oc) ∧ W.cell? ⟨w.heap.size, 2, none⟩ = some (.slice va p.vs.length vc) ∧ W.cell? ⟨w.heap.size, 3, none⟩ = some (sV f.name) ∧ W.cell? ⟨w.heap.size, 4, none⟩ = some (.int .i64 f.params) ∧ W.cell? ⟨w.heap.size, 5, none⟩ = some (.int .i64 f.regs) ∧ W.cell? ⟨w.heap.size, 6, none⟩ = some (.int .i64 f.prio) ∧ W.cell? ⟨w.heap.size, 7, none⟩ = some (.bool f.cl) ∧ W.cell? ⟨w.heap.size, 8, none⟩ = some (.slice ca f.code.length cc) ∧ W.cell? ⟨w.heap.size + 1, 0, none⟩ = some (.int .i64 12) ∧ W.cell? ⟨w.heap.size + 1, 1, none⟩ = some (.int .i64 kd)) from fun W hW => by
        subst hwk
        have h0 := alloc_here w (.cells #[.slice fa p.fs.length fc, .slice (some ⟨b', o', none⟩) p.os.length oc, .slice va p.vs.length vc, sV f.name, .int .i64 f.params, .int .i64 f.regs, .int .i64 f.prio, .bool f.cl, .slice ca f.code.length cc] 142)
        have h0 := (Below.heap_alloc _ (.cells #[.int .i64 12, .int .i64 kd] 170) _ (lt_of_block h0)).trans h0
        have k0 := (hW.below.block _ (lt_of_block h0)).trans h0
        have h1 := alloc_here (w.alloc (.cells #[.slice fa p.fs.length fc, .slice (some ⟨b', o', none⟩) p.os.length oc, .slice va p.vs.length vc, sV f.name, .int .i64 f.params, .int .i64 f.regs, .int .i64 f.prio, .bool f.cl, .slice ca f.code.length cc] 142)) (.cells #[.int .i64 12, .int .i64 kd] 170)
        simp only [World.size_alloc] at h1
        have k1 := (hW.below.block _ (lt_of_block h1)).trans h1
        exact ⟨cell_of k0 rfl, cell_of k0 rfl, cell_of k0 rfl, cell_of k0 rfl, cell_of k0 rfl, cell_of k0 rfl, cell_of k0 rfl, cell_of k0 rfl, cell_of k0 rfl, cell_of k1 rfl, cell_of k1 rfl⟩)
      have HW := Lib.hid (show Ext w wk by rw [hwk]; exact (ext_alloc (ext_alloc (Below.refl _ _) _) _))
      have HE0 := Lib.hid (show Ext wk wk from Below.refl _ _)
      generalize f.name = fnm at *
      generalize f.params = fpa at *
      generalize f.regs = rg at *
      generalize f.prio = fpr at *
      generalize f.cl = fcl at *
      have x1 := cell_ext x0 HW.out
      clear x0
      go_enter Tryz.func111, Tryz.ntmps111
      go_wp2_with fail
      rw [← hwk]
      clear hwk
      refine (K.out _).mono ?_
      rintro _ v1 ⟨rfl, hv1⟩
      rw [hv1]
      clear hv1 v1
      obtain ⟨d0_0, d0_1, d0_2, d0_3, d0_4, d0_5, d0_6, d0_7, d0_8, d1_0, d1_1⟩ := BX.out _ HE0.out
      go_wp2
      go_quiet (fail)
      go_wp2
      go_ret
      exact ⟨by rw [HR.out]; rfl, Ext.drewN' (Ext.trans HW.out HE0.out)⟩

/-- an operand of the thirteen kinds -/
theorem operand_any (p : Pg) (A : PA) (f : Fn) (ca : Option Addr) (cc : Nat) (q : Opd) (n : Int) (w : World) (h : CkAt w p A f ca) (hn : i64 n) (hq : 0 ≤ q.what ∧ q.what ≤ 12) :
    Gives Tryz.prog 111 #[CKV p A f ca cc, .agg #[.int .i64 q.what, .int .i64 q.kind], .int .i64 n] w (.int .i64 (ckOpd p f q n)) := by
  obtain ⟨k, kd⟩ := q
  dsimp only at hq ⊢
  obtain ⟨m, rfl⟩ : ∃ m : Nat, k = m := ⟨k.toNat, by omega⟩
  have hm : m ≤ 12 := by omega
  match m, hm with
  | 0, _ => exact operand_0 p A f ca cc kd n w h hn
  | 1, _ => exact operand_1 p A f ca cc kd n w h hn
  | 2, _ => exact operand_2 p A f ca cc kd n w h hn
  | 3, _ => exact operand_3 p A f ca cc kd n w h hn
  | 4, _ => exact operand_4 p A f ca cc kd n w h hn
  | 5, _ => exact operand_5 p A f ca cc kd n w h hn
  | 6, _ => exact operand_6 p A f ca cc kd n w h hn
  | 7, _ => exact operand_7 p A f ca cc kd n w h hn
  | 8, _ => exact operand_8 p A f ca cc kd n w h hn
  | 9, _ => exact operand_9 p A f ca cc kd n w h hn
  | 10, _ => exact operand_10 p A f ca cc kd n w h hn
  | 11, _ => exact operand_11 p A f ca cc kd n w h hn
  | 12, _ => exact operand_12 p A f ca cc kd n w h hn
end Go.Proofs.YtfkjokbhnblndaaGreatDoor
