/- The reference's checkObjectIndex, checkOperand. -/
import Derived.Test.YtfkjokbhnblndaaGreatDoorPgI
import Derived.Test.YtfkjokbhnblndaaGreatDoorPgQ2
namespace Go.Proofs.YtfkjokbhnblndaaGreatDoor
open Go.RowKit
set_option linter.unusedVariables false
set_option linter.unusedSimpArgs false

set_option maxRecDepth 100000 in
set_option maxHeartbeats 2000000 in
theorem rop_0 (p : Pg) (A : PA) (f : Fn) (ca : Option Addr) (cc : Nat) (kd n : Int) (w : World) (h : CkAt w p A f ca) (hn : i64 n) :
    Gives Tryz.prog 126 #[PV p A, FV f ca cc, .int .u8 46, .int .i64 n] w (.int .i64 (ckOpd p f ⟨0, kd⟩ n)) := by
  unfold Gives
  obtain ⟨fa, fc, oa, oc, va, vc⟩ := A
  dsimp only [PV, FV]
  obtain ⟨hn1, hn2⟩ := hn
  obtain ⟨hr1, hr2⟩ := h.regs
  have hlc := h.fwf.len
  have hlf := h.pg.wf.nf
  have hlo := h.pg.wf.no
  have hlv := h.pg.wf.nv
  by_cases hb : n = 0
  · have HR := Lib.hid (show ckOpd p f ⟨0, kd⟩ n = 0 by simp [ckOpd, hb])
    generalize ckOpd p f ⟨0, kd⟩ n = res at *
    subst hb
    clear h
    obtain ⟨wk, hwk⟩ : ∃ W, W = ((w.alloc (.cells #[.slice fa p.fs.length fc, .slice oa p.os.length oc, .slice va p.vs.length vc] 26)).alloc (.cells #[sV f.name, .int .i64 f.params, .int .i64 f.regs, .int .i64 f.prio, .bool f.cl, .slice ca f.code.length cc] 47)) := ⟨_, rfl⟩
    have BX := Lib.hid (show ∀ W, Ext wk W → (W.cell? ⟨w.heap.size, 0, none⟩ = some (.slice fa p.fs.length fc) ∧ W.cell? ⟨w.heap.size, 1, none⟩ = some (.slice oa p.os.length oc) ∧ W.cell? ⟨w.heap.size, 2, none⟩ = some (.slice va p.vs.length vc) ∧ W.cell? ⟨w.heap.size + 1, 0, none⟩ = some (sV f.name) ∧ W.cell? ⟨w.heap.size + 1, 1, none⟩ = some (.int .i64 f.params) ∧ W.cell? ⟨w.heap.size + 1, 2, none⟩ = some (.int .i64 f.regs) ∧ W.cell? ⟨w.heap.size + 1, 3, none⟩ = some (.int .i64 f.prio) ∧ W.cell? ⟨w.heap.size + 1, 4, none⟩ = some (.bool f.cl) ∧ W.cell? ⟨w.heap.size + 1, 5, none⟩ = some (.slice ca f.code.length cc)) from fun W hW => by
      subst hwk
      have h0 := alloc_here w (.cells #[.slice fa p.fs.length fc, .slice oa p.os.length oc, .slice va p.vs.length vc] 26)
      have h0 := (Below.heap_alloc _ (.cells #[sV f.name, .int .i64 f.params, .int .i64 f.regs, .int .i64 f.prio, .bool f.cl, .slice ca f.code.length cc] 47) _ (lt_of_block h0)).trans h0
      have k0 := (hW.below.block _ (lt_of_block h0)).trans h0
      have h1 := alloc_here (w.alloc (.cells #[.slice fa p.fs.length fc, .slice oa p.os.length oc, .slice va p.vs.length vc] 26)) (.cells #[sV f.name, .int .i64 f.params, .int .i64 f.regs, .int .i64 f.prio, .bool f.cl, .slice ca f.code.length cc] 47)
      simp only [World.size_alloc] at h1
      have k1 := (hW.below.block _ (lt_of_block h1)).trans h1
      exact ⟨cell_of k0 rfl, cell_of k0 rfl, cell_of k0 rfl, cell_of k1 rfl, cell_of k1 rfl, cell_of k1 rfl, cell_of k1 rfl, cell_of k1 rfl, cell_of k1 rfl⟩)
    have HWZ := Lib.hid (show wk.heap.size = w.heap.size + 2 by rw [hwk]; simp)
    have HW := Lib.hid (show Ext w wk by rw [hwk]; exact (ext_alloc (ext_alloc (Below.refl _ _) _) _))
    have HE0 := Lib.hid (show Ext wk wk from Below.refl _ _)
    generalize f.name = fnm at *
    generalize f.params = fpa at *
    generalize f.regs = rg at *
    generalize f.prio = fpr at *
    generalize f.cl = fcl at *
    go_enter Tryz.func126, Tryz.ntmps126
    go_wp2
    rw [← hwk]
    clear hwk
    go_ret
    exact ⟨by rw [HR.out]; rfl, HW.out⟩
  · have HR := Lib.hid (show ckOpd p f ⟨0, kd⟩ n = 1 by simp [ckOpd, hb])
    generalize ckOpd p f ⟨0, kd⟩ n = res at *
    have hb1 : (n != 0) = true := by rw [bne_iff_ne]; exact hb
    clear hb
    clear h
    obtain ⟨wk, hwk⟩ : ∃ W, W = ((w.alloc (.cells #[.slice fa p.fs.length fc, .slice oa p.os.length oc, .slice va p.vs.length vc] 26)).alloc (.cells #[sV f.name, .int .i64 f.params, .int .i64 f.regs, .int .i64 f.prio, .bool f.cl, .slice ca f.code.length cc] 47)) := ⟨_, rfl⟩
    have BX := Lib.hid (show ∀ W, Ext wk W → (W.cell? ⟨w.heap.size, 0, none⟩ = some (.slice fa p.fs.length fc) ∧ W.cell? ⟨w.heap.size, 1, none⟩ = some (.slice oa p.os.length oc) ∧ W.cell? ⟨w.heap.size, 2, none⟩ = some (.slice va p.vs.length vc) ∧ W.cell? ⟨w.heap.size + 1, 0, none⟩ = some (sV f.name) ∧ W.cell? ⟨w.heap.size + 1, 1, none⟩ = some (.int .i64 f.params) ∧ W.cell? ⟨w.heap.size + 1, 2, none⟩ = some (.int .i64 f.regs) ∧ W.cell? ⟨w.heap.size + 1, 3, none⟩ = some (.int .i64 f.prio) ∧ W.cell? ⟨w.heap.size + 1, 4, none⟩ = some (.bool f.cl) ∧ W.cell? ⟨w.heap.size + 1, 5, none⟩ = some (.slice ca f.code.length cc)) from fun W hW => by
      subst hwk
      have h0 := alloc_here w (.cells #[.slice fa p.fs.length fc, .slice oa p.os.length oc, .slice va p.vs.length vc] 26)
      have h0 := (Below.heap_alloc _ (.cells #[sV f.name, .int .i64 f.params, .int .i64 f.regs, .int .i64 f.prio, .bool f.cl, .slice ca f.code.length cc] 47) _ (lt_of_block h0)).trans h0
      have k0 := (hW.below.block _ (lt_of_block h0)).trans h0
      have h1 := alloc_here (w.alloc (.cells #[.slice fa p.fs.length fc, .slice oa p.os.length oc, .slice va p.vs.length vc] 26)) (.cells #[sV f.name, .int .i64 f.params, .int .i64 f.regs, .int .i64 f.prio, .bool f.cl, .slice ca f.code.length cc] 47)
      simp only [World.size_alloc] at h1
      have k1 := (hW.below.block _ (lt_of_block h1)).trans h1
      exact ⟨cell_of k0 rfl, cell_of k0 rfl, cell_of k0 rfl, cell_of k1 rfl, cell_of k1 rfl, cell_of k1 rfl, cell_of k1 rfl, cell_of k1 rfl, cell_of k1 rfl⟩)
    have HWZ := Lib.hid (show wk.heap.size = w.heap.size + 2 by rw [hwk]; simp)
    have HW := Lib.hid (show Ext w wk by rw [hwk]; exact (ext_alloc (ext_alloc (Below.refl _ _) _) _))
    have HE0 := Lib.hid (show Ext wk wk from Below.refl _ _)
    generalize f.name = fnm at *
    generalize f.params = fpa at *
    generalize f.regs = rg at *
    generalize f.prio = fpr at *
    generalize f.cl = fcl at *
    go_enter Tryz.func126, Tryz.ntmps126
    go_wp2
    rw [← hwk]
    clear hwk
    go_ret
    exact ⟨by rw [HR.out]; rfl, HW.out⟩

set_option maxRecDepth 100000 in
set_option maxHeartbeats 2000000 in
theorem rop_1 (p : Pg) (A : PA) (f : Fn) (ca : Option Addr) (cc : Nat) (kd n : Int) (w : World) (h : CkAt w p A f ca) (hn : i64 n) :
    Gives Tryz.prog 126 #[PV p A, FV f ca cc, .int .u8 110, .int .i64 n] w (.int .i64 (ckOpd p f ⟨1, kd⟩ n)) := by
  unfold Gives
  obtain ⟨fa, fc, oa, oc, va, vc⟩ := A
  dsimp only [PV, FV]
  obtain ⟨hn1, hn2⟩ := hn
  obtain ⟨hr1, hr2⟩ := h.regs
  have hlc := h.fwf.len
  have hlf := h.pg.wf.nf
  have hlo := h.pg.wf.no
  have hlv := h.pg.wf.nv
  cases hb : inB n (-1099511627776) 1099511627776 with
  | true =>
    have HR := Lib.hid (show ckOpd p f ⟨1, kd⟩ n = 0 by simp [ckOpd, hb])
    generalize ckOpd p f ⟨1, kd⟩ n = res at *
    have K := fun W => between_any n (-1099511627776) 1099511627776 W
    simp only [hb] at K
    have K := Lib.hid K
    clear h hb
    obtain ⟨wk, hwk⟩ : ∃ W, W = ((w.alloc (.cells #[.slice fa p.fs.length fc, .slice oa p.os.length oc, .slice va p.vs.length vc] 26)).alloc (.cells #[sV f.name, .int .i64 f.params, .int .i64 f.regs, .int .i64 f.prio, .bool f.cl, .slice ca f.code.length cc] 47)) := ⟨_, rfl⟩
    have BX := Lib.hid (show ∀ W, Ext wk W → (W.cell? ⟨w.heap.size, 0, none⟩ = some (.slice fa p.fs.length fc) ∧ W.cell? ⟨w.heap.size, 1, none⟩ = some (.slice oa p.os.length oc) ∧ W.cell? ⟨w.heap.size, 2, none⟩ = some (.slice va p.vs.length vc) ∧ W.cell? ⟨w.heap.size + 1, 0, none⟩ = some (sV f.name) ∧ W.cell? ⟨w.heap.size + 1, 1, none⟩ = some (.int .i64 f.params) ∧ W.cell? ⟨w.heap.size + 1, 2, none⟩ = some (.int .i64 f.regs) ∧ W.cell? ⟨w.heap.size + 1, 3, none⟩ = some (.int .i64 f.prio) ∧ W.cell? ⟨w.heap.size + 1, 4, none⟩ = some (.bool f.cl) ∧ W.cell? ⟨w.heap.size + 1, 5, none⟩ = some (.slice ca f.code.length cc)) from fun W hW => by
      subst hwk
      have h0 := alloc_here w (.cells #[.slice fa p.fs.length fc, .slice oa p.os.length oc, .slice va p.vs.length vc] 26)
      have h0 := (Below.heap_alloc _ (.cells #[sV f.name, .int .i64 f.params, .int .i64 f.regs, .int .i64 f.prio, .bool f.cl, .slice ca f.code.length cc] 47) _ (lt_of_block h0)).trans h0
      have k0 := (hW.below.block _ (lt_of_block h0)).trans h0
      have h1 := alloc_here (w.alloc (.cells #[.slice fa p.fs.length fc, .slice oa p.os.length oc, .slice va p.vs.length vc] 26)) (.cells #[sV f.name, .int .i64 f.params, .int .i64 f.regs, .int .i64 f.prio, .bool f.cl, .slice ca f.code.length cc] 47)
      simp only [World.size_alloc] at h1
      have k1 := (hW.below.block _ (lt_of_block h1)).trans h1
      exact ⟨cell_of k0 rfl, cell_of k0 rfl, cell_of k0 rfl, cell_of k1 rfl, cell_of k1 rfl, cell_of k1 rfl, cell_of k1 rfl, cell_of k1 rfl, cell_of k1 rfl⟩)
    have HWZ := Lib.hid (show wk.heap.size = w.heap.size + 2 by rw [hwk]; simp)
    have HW := Lib.hid (show Ext w wk by rw [hwk]; exact (ext_alloc (ext_alloc (Below.refl _ _) _) _))
    have HE0 := Lib.hid (show Ext wk wk from Below.refl _ _)
    generalize f.name = fnm at *
    generalize f.params = fpa at *
    generalize f.regs = rg at *
    generalize f.prio = fpr at *
    generalize f.cl = fcl at *
    go_enter Tryz.func126, Tryz.ntmps126
    go_wp2_with fail
    rw [← hwk]
    clear hwk
    refine (K.out _).mono ?_
    rintro _ v1 ⟨rfl, hv1⟩
    rw [hv1]
    clear hv1 v1
    obtain ⟨d0_0, d0_1, d0_2, d1_0, d1_1, d1_2, d1_3, d1_4, d1_5⟩ := BX.out _ HE0.out
    go_wp2
    go_ret
    exact ⟨by rw [HR.out]; rfl, Ext.trans HW.out HE0.out⟩
  | false =>
    have HR := Lib.hid (show ckOpd p f ⟨1, kd⟩ n = 2 by simp [ckOpd, hb])
    generalize ckOpd p f ⟨1, kd⟩ n = res at *
    have K := fun W => between_any n (-1099511627776) 1099511627776 W
    simp only [hb] at K
    have K := Lib.hid K
    clear h hb
    obtain ⟨wk, hwk⟩ : ∃ W, W = ((w.alloc (.cells #[.slice fa p.fs.length fc, .slice oa p.os.length oc, .slice va p.vs.length vc] 26)).alloc (.cells #[sV f.name, .int .i64 f.params, .int .i64 f.regs, .int .i64 f.prio, .bool f.cl, .slice ca f.code.length cc] 47)) := ⟨_, rfl⟩
    have BX := Lib.hid (show ∀ W, Ext wk W → (W.cell? ⟨w.heap.size, 0, none⟩ = some (.slice fa p.fs.length fc) ∧ W.cell? ⟨w.heap.size, 1, none⟩ = some (.slice oa p.os.length oc) ∧ W.cell? ⟨w.heap.size, 2, none⟩ = some (.slice va p.vs.length vc) ∧ W.cell? ⟨w.heap.size + 1, 0, none⟩ = some (sV f.name) ∧ W.cell? ⟨w.heap.size + 1, 1, none⟩ = some (.int .i64 f.params) ∧ W.cell? ⟨w.heap.size + 1, 2, none⟩ = some (.int .i64 f.regs) ∧ W.cell? ⟨w.heap.size + 1, 3, none⟩ = some (.int .i64 f.prio) ∧ W.cell? ⟨w.heap.size + 1, 4, none⟩ = some (.bool f.cl) ∧ W.cell? ⟨w.heap.size + 1, 5, none⟩ = some (.slice ca f.code.length cc)) from fun W hW => by
      subst hwk
      have h0 := alloc_here w (.cells #[.slice fa p.fs.length fc, .slice oa p.os.length oc, .slice va p.vs.length vc] 26)
      have h0 := (Below.heap_alloc _ (.cells #[sV f.name, .int .i64 f.params, .int .i64 f.regs, .int .i64 f.prio, .bool f.cl, .slice ca f.code.length cc] 47) _ (lt_of_block h0)).trans h0
      have k0 := (hW.below.block _ (lt_of_block h0)).trans h0
      have h1 := alloc_here (w.alloc (.cells #[.slice fa p.fs.length fc, .slice oa p.os.length oc, .slice va p.vs.length vc] 26)) (.cells #[sV f.name, .int .i64 f.params, .int .i64 f.regs, .int .i64 f.prio, .bool f.cl, .slice ca f.code.length cc] 47)
      simp only [World.size_alloc] at h1
      have k1 := (hW.below.block _ (lt_of_block h1)).trans h1
      exact ⟨cell_of k0 rfl, cell_of k0 rfl, cell_of k0 rfl, cell_of k1 rfl, cell_of k1 rfl, cell_of k1 rfl, cell_of k1 rfl, cell_of k1 rfl, cell_of k1 rfl⟩)
    have HWZ := Lib.hid (show wk.heap.size = w.heap.size + 2 by rw [hwk]; simp)
    have HW := Lib.hid (show Ext w wk by rw [hwk]; exact (ext_alloc (ext_alloc (Below.refl _ _) _) _))
    have HE0 := Lib.hid (show Ext wk wk from Below.refl _ _)
    generalize f.name = fnm at *
    generalize f.params = fpa at *
    generalize f.regs = rg at *
    generalize f.prio = fpr at *
    generalize f.cl = fcl at *
    go_enter Tryz.func126, Tryz.ntmps126
    go_wp2_with fail
    rw [← hwk]
    clear hwk
    refine (K.out _).mono ?_
    rintro _ v1 ⟨rfl, hv1⟩
    rw [hv1]
    clear hv1 v1
    obtain ⟨d0_0, d0_1, d0_2, d1_0, d1_1, d1_2, d1_3, d1_4, d1_5⟩ := BX.out _ HE0.out
    go_wp2
    go_ret
    exact ⟨by rw [HR.out]; rfl, Ext.trans HW.out HE0.out⟩

set_option maxRecDepth 100000 in
set_option maxHeartbeats 2000000 in
theorem rop_2 (p : Pg) (A : PA) (f : Fn) (ca : Option Addr) (cc : Nat) (kd n : Int) (w : World) (h : CkAt w p A f ca) (hn : i64 n) :
    Gives Tryz.prog 126 #[PV p A, FV f ca cc, .int .u8 109, .int .i64 n] w (.int .i64 (ckOpd p f ⟨2, kd⟩ n)) := by
  unfold Gives
  obtain ⟨fa, fc, oa, oc, va, vc⟩ := A
  dsimp only [PV, FV]
  obtain ⟨hn1, hn2⟩ := hn
  obtain ⟨hr1, hr2⟩ := h.regs
  have hlc := h.fwf.len
  have hlf := h.pg.wf.nf
  have hlo := h.pg.wf.no
  have hlv := h.pg.wf.nv
  cases hb : inB n 0 99 with
  | true =>
    have HR := Lib.hid (show ckOpd p f ⟨2, kd⟩ n = 0 by simp [ckOpd, hb])

    generalize ckOpd p f ⟨2, kd⟩ n = res at *
    have K := fun W => between_any n 0 99 W
    simp only [hb] at K
    have K := Lib.hid K
    clear h hb
    obtain ⟨wk, hwk⟩ : ∃ W, W = ((w.alloc (.cells #[.slice fa p.fs.length fc, .slice oa p.os.length oc, .slice va p.vs.length vc] 26)).alloc (.cells #[sV f.name, .int .i64 f.params, .int .i64 f.regs, .int .i64 f.prio, .bool f.cl, .slice ca f.code.length cc] 47)) := ⟨_, rfl⟩
    have BX := Lib.hid (show ∀ W, Ext wk W → (W.cell? ⟨w.heap.size, 0, none⟩ = some (.slice fa p.fs.length fc) ∧ W.cell? ⟨w.heap.size, 1, none⟩ = some (.slice oa p.os.length oc) ∧ W.cell? ⟨w.heap.size, 2, none⟩ = some (.slice va p.vs.length vc) ∧ W.cell? ⟨w.heap.size + 1, 0, none⟩ = some (sV f.name) ∧ W.cell? ⟨w.heap.size + 1, 1, none⟩ = some (.int .i64 f.params) ∧ W.cell? ⟨w.heap.size + 1, 2, none⟩ = some (.int .i64 f.regs) ∧ W.cell? ⟨w.heap.size + 1, 3, none⟩ = some (.int .i64 f.prio) ∧ W.cell? ⟨w.heap.size + 1, 4, none⟩ = some (.bool f.cl) ∧ W.cell? ⟨w.heap.size + 1, 5, none⟩ = some (.slice ca f.code.length cc)) from fun W hW => by
      subst hwk
      have h0 := alloc_here w (.cells #[.slice fa p.fs.length fc, .slice oa p.os.length oc, .slice va p.vs.length vc] 26)
      have h0 := (Below.heap_alloc _ (.cells #[sV f.name, .int .i64 f.params, .int .i64 f.regs, .int .i64 f.prio, .bool f.cl, .slice ca f.code.length cc] 47) _ (lt_of_block h0)).trans h0
      have k0 := (hW.below.block _ (lt_of_block h0)).trans h0
      have h1 := alloc_here (w.alloc (.cells #[.slice fa p.fs.length fc, .slice oa p.os.length oc, .slice va p.vs.length vc] 26)) (.cells #[sV f.name, .int .i64 f.params, .int .i64 f.regs, .int .i64 f.prio, .bool f.cl, .slice ca f.code.length cc] 47)
      simp only [World.size_alloc] at h1
      have k1 := (hW.below.block _ (lt_of_block h1)).trans h1
      exact ⟨cell_of k0 rfl, cell_of k0 rfl, cell_of k0 rfl, cell_of k1 rfl, cell_of k1 rfl, cell_of k1 rfl, cell_of k1 rfl, cell_of k1 rfl, cell_of k1 rfl⟩)
    have HWZ := Lib.hid (show wk.heap.size = w.heap.size + 2 by rw [hwk]; simp)
    have HW := Lib.hid (show Ext w wk by rw [hwk]; exact (ext_alloc (ext_alloc (Below.refl _ _) _) _))
    have HE0 := Lib.hid (show Ext wk wk from Below.refl _ _)
    generalize f.name = fnm at *
    generalize f.params = fpa at *
    generalize f.regs = rg at *
    generalize f.prio = fpr at *
    generalize f.cl = fcl at *
    go_enter Tryz.func126, Tryz.ntmps126
    go_wp2_with fail
    rw [← hwk]
    clear hwk
    refine (K.out _).mono ?_
    rintro _ v1 ⟨rfl, hv1⟩
    rw [hv1]
    clear hv1 v1
    obtain ⟨d0_0, d0_1, d0_2, d1_0, d1_1, d1_2, d1_3, d1_4, d1_5⟩ := BX.out _ HE0.out
    go_wp2
    go_ret
    exact ⟨by rw [HR.out]; rfl, Ext.trans HW.out HE0.out⟩
  | false =>
    have HR := Lib.hid (show ckOpd p f ⟨2, kd⟩ n = 2 by simp [ckOpd, hb])

    generalize ckOpd p f ⟨2, kd⟩ n = res at *
    have K := fun W => between_any n 0 99 W
    simp only [hb] at K
    have K := Lib.hid K
    clear h hb
    obtain ⟨wk, hwk⟩ : ∃ W, W = ((w.alloc (.cells #[.slice fa p.fs.length fc, .slice oa p.os.length oc, .slice va p.vs.length vc] 26)).alloc (.cells #[sV f.name, .int .i64 f.params, .int .i64 f.regs, .int .i64 f.prio, .bool f.cl, .slice ca f.code.length cc] 47)) := ⟨_, rfl⟩
    have BX := Lib.hid (show ∀ W, Ext wk W → (W.cell? ⟨w.heap.size, 0, none⟩ = some (.slice fa p.fs.length fc) ∧ W.cell? ⟨w.heap.size, 1, none⟩ = some (.slice oa p.os.length oc) ∧ W.cell? ⟨w.heap.size, 2, none⟩ = some (.slice va p.vs.length vc) ∧ W.cell? ⟨w.heap.size + 1, 0, none⟩ = some (sV f.name) ∧ W.cell? ⟨w.heap.size + 1, 1, none⟩ = some (.int .i64 f.params) ∧ W.cell? ⟨w.heap.size + 1, 2, none⟩ = some (.int .i64 f.regs) ∧ W.cell? ⟨w.heap.size + 1, 3, none⟩ = some (.int .i64 f.prio) ∧ W.cell? ⟨w.heap.size + 1, 4, none⟩ = some (.bool f.cl) ∧ W.cell? ⟨w.heap.size + 1, 5, none⟩ = some (.slice ca f.code.length cc)) from fun W hW => by
      subst hwk
      have h0 := alloc_here w (.cells #[.slice fa p.fs.length fc, .slice oa p.os.length oc, .slice va p.vs.length vc] 26)
      have h0 := (Below.heap_alloc _ (.cells #[sV f.name, .int .i64 f.params, .int .i64 f.regs, .int .i64 f.prio, .bool f.cl, .slice ca f.code.length cc] 47) _ (lt_of_block h0)).trans h0
      have k0 := (hW.below.block _ (lt_of_block h0)).trans h0
      have h1 := alloc_here (w.alloc (.cells #[.slice fa p.fs.length fc, .slice oa p.os.length oc, .slice va p.vs.length vc] 26)) (.cells #[sV f.name, .int .i64 f.params, .int .i64 f.regs, .int .i64 f.prio, .bool f.cl, .slice ca f.code.length cc] 47)
      simp only [World.size_alloc] at h1
      have k1 := (hW.below.block _ (lt_of_block h1)).trans h1
      exact ⟨cell_of k0 rfl, cell_of k0 rfl, cell_of k0 rfl, cell_of k1 rfl, cell_of k1 rfl, cell_of k1 rfl, cell_of k1 rfl, cell_of k1 rfl, cell_of k1 rfl⟩)
    have HWZ := Lib.hid (show wk.heap.size = w.heap.size + 2 by rw [hwk]; simp)
    have HW := Lib.hid (show Ext w wk by rw [hwk]; exact (ext_alloc (ext_alloc (Below.refl _ _) _) _))
    have HE0 := Lib.hid (show Ext wk wk from Below.refl _ _)
    generalize f.name = fnm at *
    generalize f.params = fpa at *
    generalize f.regs = rg at *
    generalize f.prio = fpr at *
    generalize f.cl = fcl at *
    go_enter Tryz.func126, Tryz.ntmps126
    go_wp2_with fail
    rw [← hwk]
    clear hwk
    refine (K.out _).mono ?_
    rintro _ v1 ⟨rfl, hv1⟩
    rw [hv1]
    clear hv1 v1
    obtain ⟨d0_0, d0_1, d0_2, d1_0, d1_1, d1_2, d1_3, d1_4, d1_5⟩ := BX.out _ HE0.out
    go_wp2
    go_ret
    exact ⟨by rw [HR.out]; rfl, Ext.trans HW.out HE0.out⟩

set_option maxRecDepth 100000 in
set_option maxHeartbeats 2000000 in
theorem rop_3 (p : Pg) (A : PA) (f : Fn) (ca : Option Addr) (cc : Nat) (kd n : Int) (w : World) (h : CkAt w p A f ca) (hn : i64 n) :
    Gives Tryz.prog 126 #[PV p A, FV f ca cc, .int .u8 114, .int .i64 n] w (.int .i64 (ckOpd p f ⟨3, kd⟩ n)) := by
  unfold Gives
  obtain ⟨fa, fc, oa, oc, va, vc⟩ := A
  dsimp only [PV, FV]
  obtain ⟨hn1, hn2⟩ := hn
  obtain ⟨hr1, hr2⟩ := h.regs
  have hlc := h.fwf.len
  have hlf := h.pg.wf.nf
  have hlo := h.pg.wf.no
  have hlv := h.pg.wf.nv
  cases hb : inB n 0 (f.regs - 1) with
  | true =>
    have HR := Lib.hid (show ckOpd p f ⟨3, kd⟩ n = 0 by simp [ckOpd, hb])

    generalize ckOpd p f ⟨3, kd⟩ n = res at *
    have K := fun W => between_any n 0 (f.regs - 1) W
    simp only [hb] at K
    have K := Lib.hid K
    clear h hb
    obtain ⟨wk, hwk⟩ : ∃ W, W = ((w.alloc (.cells #[.slice fa p.fs.length fc, .slice oa p.os.length oc, .slice va p.vs.length vc] 26)).alloc (.cells #[sV f.name, .int .i64 f.params, .int .i64 f.regs, .int .i64 f.prio, .bool f.cl, .slice ca f.code.length cc] 47)) := ⟨_, rfl⟩
    have BX := Lib.hid (show ∀ W, Ext wk W → (W.cell? ⟨w.heap.size, 0, none⟩ = some (.slice fa p.fs.length fc) ∧ W.cell? ⟨w.heap.size, 1, none⟩ = some (.slice oa p.os.length oc) ∧ W.cell? ⟨w.heap.size, 2, none⟩ = some (.slice va p.vs.length vc) ∧ W.cell? ⟨w.heap.size + 1, 0, none⟩ = some (sV f.name) ∧ W.cell? ⟨w.heap.size + 1, 1, none⟩ = some (.int .i64 f.params) ∧ W.cell? ⟨w.heap.size + 1, 2, none⟩ = some (.int .i64 f.regs) ∧ W.cell? ⟨w.heap.size + 1, 3, none⟩ = some (.int .i64 f.prio) ∧ W.cell? ⟨w.heap.size + 1, 4, none⟩ = some (.bool f.cl) ∧ W.cell? ⟨w.heap.size + 1, 5, none⟩ = some (.slice ca f.code.length cc)) from fun W hW => by
      subst hwk
      have h0 := alloc_here w (.cells #[.slice fa p.fs.length fc, .slice oa p.os.length oc, .slice va p.vs.length vc] 26)
      have h0 := (Below.heap_alloc _ (.cells #[sV f.name, .int .i64 f.params, .int .i64 f.regs, .int .i64 f.prio, .bool f.cl, .slice ca f.code.length cc] 47) _ (lt_of_block h0)).trans h0
      have k0 := (hW.below.block _ (lt_of_block h0)).trans h0
      have h1 := alloc_here (w.alloc (.cells #[.slice fa p.fs.length fc, .slice oa p.os.length oc, .slice va p.vs.length vc] 26)) (.cells #[sV f.name, .int .i64 f.params, .int .i64 f.regs, .int .i64 f.prio, .bool f.cl, .slice ca f.code.length cc] 47)
      simp only [World.size_alloc] at h1
      have k1 := (hW.below.block _ (lt_of_block h1)).trans h1
      exact ⟨cell_of k0 rfl, cell_of k0 rfl, cell_of k0 rfl, cell_of k1 rfl, cell_of k1 rfl, cell_of k1 rfl, cell_of k1 rfl, cell_of k1 rfl, cell_of k1 rfl⟩)
    have HWZ := Lib.hid (show wk.heap.size = w.heap.size + 2 by rw [hwk]; simp)
    have HW := Lib.hid (show Ext w wk by rw [hwk]; exact (ext_alloc (ext_alloc (Below.refl _ _) _) _))
    have HE0 := Lib.hid (show Ext wk wk from Below.refl _ _)
    generalize f.name = fnm at *
    generalize f.params = fpa at *
    generalize f.regs = rg at *
    generalize f.prio = fpr at *
    generalize f.cl = fcl at *
    go_enter Tryz.func126, Tryz.ntmps126
    go_wp2_with fail
    rw [← hwk]
    clear hwk
    refine (K.out _).mono ?_
    rintro _ v1 ⟨rfl, hv1⟩
    rw [hv1]
    clear hv1 v1
    obtain ⟨d0_0, d0_1, d0_2, d1_0, d1_1, d1_2, d1_3, d1_4, d1_5⟩ := BX.out _ HE0.out
    go_wp2
    go_ret
    exact ⟨by rw [HR.out]; rfl, Ext.trans HW.out HE0.out⟩
  | false =>
    have HR := Lib.hid (show ckOpd p f ⟨3, kd⟩ n = 2 by simp [ckOpd, hb])

    generalize ckOpd p f ⟨3, kd⟩ n = res at *
    have K := fun W => between_any n 0 (f.regs - 1) W
    simp only [hb] at K
    have K := Lib.hid K
    clear h hb
    obtain ⟨wk, hwk⟩ : ∃ W, W = ((w.alloc (.cells #[.slice fa p.fs.length fc, .slice oa p.os.length oc, .slice va p.vs.length vc] 26)).alloc (.cells #[sV f.name, .int .i64 f.params, .int .i64 f.regs, .int .i64 f.prio, .bool f.cl, .slice ca f.code.length cc] 47)) := ⟨_, rfl⟩
    have BX := Lib.hid (show ∀ W, Ext wk W → (W.cell? ⟨w.heap.size, 0, none⟩ = some (.slice fa p.fs.length fc) ∧ W.cell? ⟨w.heap.size, 1, none⟩ = some (.slice oa p.os.length oc) ∧ W.cell? ⟨w.heap.size, 2, none⟩ = some (.slice va p.vs.length vc) ∧ W.cell? ⟨w.heap.size + 1, 0, none⟩ = some (sV f.name) ∧ W.cell? ⟨w.heap.size + 1, 1, none⟩ = some (.int .i64 f.params) ∧ W.cell? ⟨w.heap.size + 1, 2, none⟩ = some (.int .i64 f.regs) ∧ W.cell? ⟨w.heap.size + 1, 3, none⟩ = some (.int .i64 f.prio) ∧ W.cell? ⟨w.heap.size + 1, 4, none⟩ = some (.bool f.cl) ∧ W.cell? ⟨w.heap.size + 1, 5, none⟩ = some (.slice ca f.code.length cc)) from fun W hW => by
      subst hwk
      have h0 := alloc_here w (.cells #[.slice fa p.fs.length fc, .slice oa p.os.length oc, .slice va p.vs.length vc] 26)
      have h0 := (Below.heap_alloc _ (.cells #[sV f.name, .int .i64 f.params, .int .i64 f.regs, .int .i64 f.prio, .bool f.cl, .slice ca f.code.length cc] 47) _ (lt_of_block h0)).trans h0
      have k0 := (hW.below.block _ (lt_of_block h0)).trans h0
      have h1 := alloc_here (w.alloc (.cells #[.slice fa p.fs.length fc, .slice oa p.os.length oc, .slice va p.vs.length vc] 26)) (.cells #[sV f.name, .int .i64 f.params, .int .i64 f.regs, .int .i64 f.prio, .bool f.cl, .slice ca f.code.length cc] 47)
      simp only [World.size_alloc] at h1
      have k1 := (hW.below.block _ (lt_of_block h1)).trans h1
      exact ⟨cell_of k0 rfl, cell_of k0 rfl, cell_of k0 rfl, cell_of k1 rfl, cell_of k1 rfl, cell_of k1 rfl, cell_of k1 rfl, cell_of k1 rfl, cell_of k1 rfl⟩)
    have HWZ := Lib.hid (show wk.heap.size = w.heap.size + 2 by rw [hwk]; simp)
    have HW := Lib.hid (show Ext w wk by rw [hwk]; exact (ext_alloc (ext_alloc (Below.refl _ _) _) _))
    have HE0 := Lib.hid (show Ext wk wk from Below.refl _ _)
    generalize f.name = fnm at *
    generalize f.params = fpa at *
    generalize f.regs = rg at *
    generalize f.prio = fpr at *
    generalize f.cl = fcl at *
    go_enter Tryz.func126, Tryz.ntmps126
    go_wp2_with fail
    rw [← hwk]
    clear hwk
    refine (K.out _).mono ?_
    rintro _ v1 ⟨rfl, hv1⟩
    rw [hv1]
    clear hv1 v1
    obtain ⟨d0_0, d0_1, d0_2, d1_0, d1_1, d1_2, d1_3, d1_4, d1_5⟩ := BX.out _ HE0.out
    go_wp2
    go_ret
    exact ⟨by rw [HR.out]; rfl, Ext.trans HW.out HE0.out⟩

set_option maxRecDepth 100000 in
set_option maxHeartbeats 2000000 in
theorem rop_4 (p : Pg) (A : PA) (f : Fn) (ca : Option Addr) (cc : Nat) (kd n : Int) (w : World) (h : CkAt w p A f ca) (hn : i64 n) :
    Gives Tryz.prog 126 #[PV p A, FV f ca cc, .int .u8 119, .int .i64 n] w (.int .i64 (ckOpd p f ⟨4, kd⟩ n)) := by
  unfold Gives
  obtain ⟨fa, fc, oa, oc, va, vc⟩ := A
  dsimp only [PV, FV]
  obtain ⟨hn1, hn2⟩ := hn
  obtain ⟨hr1, hr2⟩ := h.regs
  have hlc := h.fwf.len
  have hlf := h.pg.wf.nf
  have hlo := h.pg.wf.no
  have hlv := h.pg.wf.nv
  cases hb : inB n 0 (f.regs - 1) with
  | true =>
    have HR := Lib.hid (show ckOpd p f ⟨4, kd⟩ n = 0 by simp [ckOpd, hb])

    generalize ckOpd p f ⟨4, kd⟩ n = res at *
    have K := fun W => between_any n 0 (f.regs - 1) W
    simp only [hb] at K
    have K := Lib.hid K
    clear h hb
    obtain ⟨wk, hwk⟩ : ∃ W, W = ((w.alloc (.cells #[.slice fa p.fs.length fc, .slice oa p.os.length oc, .slice va p.vs.length vc] 26)).alloc (.cells #[sV f.name, .int .i64 f.params, .int .i64 f.regs, .int .i64 f.prio, .bool f.cl, .slice ca f.code.length cc] 47)) := ⟨_, rfl⟩
    have BX := Lib.hid (show ∀ W, Ext wk W → (W.cell? ⟨w.heap.size, 0, none⟩ = some (.slice fa p.fs.length fc) ∧ W.cell? ⟨w.heap.size, 1, none⟩ = some (.slice oa p.os.length oc) ∧ W.cell? ⟨w.heap.size, 2, none⟩ = some (.slice va p.vs.length vc) ∧ W.cell? ⟨w.heap.size + 1, 0, none⟩ = some (sV f.name) ∧ W.cell? ⟨w.heap.size + 1, 1, none⟩ = some (.int .i64 f.params) ∧ W.cell? ⟨w.heap.size + 1, 2, none⟩ = some (.int .i64 f.regs) ∧ W.cell? ⟨w.heap.size + 1, 3, none⟩ = some (.int .i64 f.prio) ∧ W.cell? ⟨w.heap.size + 1, 4, none⟩ = some (.bool f.cl) ∧ W.cell? ⟨w.heap.size + 1, 5, none⟩ = some (.slice ca f.code.length cc)) from fun W hW => by
      subst hwk
      have h0 := alloc_here w (.cells #[.slice fa p.fs.length fc, .slice oa p.os.length oc, .slice va p.vs.length vc] 26)
      have h0 := (Below.heap_alloc _ (.cells #[sV f.name, .int .i64 f.params, .int .i64 f.regs, .int .i64 f.prio, .bool f.cl, .slice ca f.code.length cc] 47) _ (lt_of_block h0)).trans h0
      have k0 := (hW.below.block _ (lt_of_block h0)).trans h0
      have h1 := alloc_here (w.alloc (.cells #[.slice fa p.fs.length fc, .slice oa p.os.length oc, .slice va p.vs.length vc] 26)) (.cells #[sV f.name, .int .i64 f.params, .int .i64 f.regs, .int .i64 f.prio, .bool f.cl, .slice ca f.code.length cc] 47)
      simp only [World.size_alloc] at h1
      have k1 := (hW.below.block _ (lt_of_block h1)).trans h1
      exact ⟨cell_of k0 rfl, cell_of k0 rfl, cell_of k0 rfl, cell_of k1 rfl, cell_of k1 rfl, cell_of k1 rfl, cell_of k1 rfl, cell_of k1 rfl, cell_of k1 rfl⟩)
    have HWZ := Lib.hid (show wk.heap.size = w.heap.size + 2 by rw [hwk]; simp)
    have HW := Lib.hid (show Ext w wk by rw [hwk]; exact (ext_alloc (ext_alloc (Below.refl _ _) _) _))
    have HE0 := Lib.hid (show Ext wk wk from Below.refl _ _)
    generalize f.name = fnm at *
    generalize f.params = fpa at *
    generalize f.regs = rg at *
    generalize f.prio = fpr at *
    generalize f.cl = fcl at *
    go_enter Tryz.func126, Tryz.ntmps126
    go_wp2_with fail
    rw [← hwk]
    clear hwk
    refine (K.out _).mono ?_
    rintro _ v1 ⟨rfl, hv1⟩
    rw [hv1]
    clear hv1 v1
    obtain ⟨d0_0, d0_1, d0_2, d1_0, d1_1, d1_2, d1_3, d1_4, d1_5⟩ := BX.out _ HE0.out
    go_wp2
    go_ret
    exact ⟨by rw [HR.out]; rfl, Ext.trans HW.out HE0.out⟩
  | false =>
    have HR := Lib.hid (show ckOpd p f ⟨4, kd⟩ n = 2 by simp [ckOpd, hb])

    generalize ckOpd p f ⟨4, kd⟩ n = res at *
    have K := fun W => between_any n 0 (f.regs - 1) W
    simp only [hb] at K
    have K := Lib.hid K
    clear h hb
    obtain ⟨wk, hwk⟩ : ∃ W, W = ((w.alloc (.cells #[.slice fa p.fs.length fc, .slice oa p.os.length oc, .slice va p.vs.length vc] 26)).alloc (.cells #[sV f.name, .int .i64 f.params, .int .i64 f.regs, .int .i64 f.prio, .bool f.cl, .slice ca f.code.length cc] 47)) := ⟨_, rfl⟩
    have BX := Lib.hid (show ∀ W, Ext wk W → (W.cell? ⟨w.heap.size, 0, none⟩ = some (.slice fa p.fs.length fc) ∧ W.cell? ⟨w.heap.size, 1, none⟩ = some (.slice oa p.os.length oc) ∧ W.cell? ⟨w.heap.size, 2, none⟩ = some (.slice va p.vs.length vc) ∧ W.cell? ⟨w.heap.size + 1, 0, none⟩ = some (sV f.name) ∧ W.cell? ⟨w.heap.size + 1, 1, none⟩ = some (.int .i64 f.params) ∧ W.cell? ⟨w.heap.size + 1, 2, none⟩ = some (.int .i64 f.regs) ∧ W.cell? ⟨w.heap.size + 1, 3, none⟩ = some (.int .i64 f.prio) ∧ W.cell? ⟨w.heap.size + 1, 4, none⟩ = some (.bool f.cl) ∧ W.cell? ⟨w.heap.size + 1, 5, none⟩ = some (.slice ca f.code.length cc)) from fun W hW => by
      subst hwk
      have h0 := alloc_here w (.cells #[.slice fa p.fs.length fc, .slice oa p.os.length oc, .slice va p.vs.length vc] 26)
      have h0 := (Below.heap_alloc _ (.cells #[sV f.name, .int .i64 f.params, .int .i64 f.regs, .int .i64 f.prio, .bool f.cl, .slice ca f.code.length cc] 47) _ (lt_of_block h0)).trans h0
      have k0 := (hW.below.block _ (lt_of_block h0)).trans h0
      have h1 := alloc_here (w.alloc (.cells #[.slice fa p.fs.length fc, .slice oa p.os.length oc, .slice va p.vs.length vc] 26)) (.cells #[sV f.name, .int .i64 f.params, .int .i64 f.regs, .int .i64 f.prio, .bool f.cl, .slice ca f.code.length cc] 47)
      simp only [World.size_alloc] at h1
      have k1 := (hW.below.block _ (lt_of_block h1)).trans h1
      exact ⟨cell_of k0 rfl, cell_of k0 rfl, cell_of k0 rfl, cell_of k1 rfl, cell_of k1 rfl, cell_of k1 rfl, cell_of k1 rfl, cell_of k1 rfl, cell_of k1 rfl⟩)
    have HWZ := Lib.hid (show wk.heap.size = w.heap.size + 2 by rw [hwk]; simp)
    have HW := Lib.hid (show Ext w wk by rw [hwk]; exact (ext_alloc (ext_alloc (Below.refl _ _) _) _))
    have HE0 := Lib.hid (show Ext wk wk from Below.refl _ _)
    generalize f.name = fnm at *
    generalize f.params = fpa at *
    generalize f.regs = rg at *
    generalize f.prio = fpr at *
    generalize f.cl = fcl at *
    go_enter Tryz.func126, Tryz.ntmps126
    go_wp2_with fail
    rw [← hwk]
    clear hwk
    refine (K.out _).mono ?_
    rintro _ v1 ⟨rfl, hv1⟩
    rw [hv1]
    clear hv1 v1
    obtain ⟨d0_0, d0_1, d0_2, d1_0, d1_1, d1_2, d1_3, d1_4, d1_5⟩ := BX.out _ HE0.out
    go_wp2
    go_ret
    exact ⟨by rw [HR.out]; rfl, Ext.trans HW.out HE0.out⟩

set_option maxRecDepth 100000 in
set_option maxHeartbeats 2000000 in
theorem rop_5 (p : Pg) (A : PA) (f : Fn) (ca : Option Addr) (cc : Nat) (kd n : Int) (w : World) (h : CkAt w p A f ca) (hn : i64 n) :
    Gives Tryz.prog 126 #[PV p A, FV f ca cc, .int .u8 111, .int .i64 n] w (.int .i64 (ckOpd p f ⟨5, kd⟩ n)) := by
  unfold Gives
  obtain ⟨fa, fc, oa, oc, va, vc⟩ := A
  dsimp only [PV, FV]
  obtain ⟨hn1, hn2⟩ := hn
  obtain ⟨hr1, hr2⟩ := h.regs
  have hlc := h.fwf.len
  have hlf := h.pg.wf.nf
  have hlo := h.pg.wf.no
  have hlv := h.pg.wf.nv
  cases hb : inB n (-1) (f.regs - 1) with
  | true =>
    have HR := Lib.hid (show ckOpd p f ⟨5, kd⟩ n = 0 by simp [ckOpd, hb])

    generalize ckOpd p f ⟨5, kd⟩ n = res at *
    have K := fun W => between_any n (-1) (f.regs - 1) W
    simp only [hb] at K
    have K := Lib.hid K
    clear h hb
    obtain ⟨wk, hwk⟩ : ∃ W, W = ((w.alloc (.cells #[.slice fa p.fs.length fc, .slice oa p.os.length oc, .slice va p.vs.length vc] 26)).alloc (.cells #[sV f.name, .int .i64 f.params, .int .i64 f.regs, .int .i64 f.prio, .bool f.cl, .slice ca f.code.length cc] 47)) := ⟨_, rfl⟩
    have BX := Lib.hid (show ∀ W, Ext wk W → (W.cell? ⟨w.heap.size, 0, none⟩ = some (.slice fa p.fs.length fc) ∧ W.cell? ⟨w.heap.size, 1, none⟩ = some (.slice oa p.os.length oc) ∧ W.cell? ⟨w.heap.size, 2, none⟩ = some (.slice va p.vs.length vc) ∧ W.cell? ⟨w.heap.size + 1, 0, none⟩ = some (sV f.name) ∧ W.cell? ⟨w.heap.size + 1, 1, none⟩ = some (.int .i64 f.params) ∧ W.cell? ⟨w.heap.size + 1, 2, none⟩ = some (.int .i64 f.regs) ∧ W.cell? ⟨w.heap.size + 1, 3, none⟩ = some (.int .i64 f.prio) ∧ W.cell? ⟨w.heap.size + 1, 4, none⟩ = some (.bool f.cl) ∧ W.cell? ⟨w.heap.size + 1, 5, none⟩ = some (.slice ca f.code.length cc)) from fun W hW => by
      subst hwk
      have h0 := alloc_here w (.cells #[.slice fa p.fs.length fc, .slice oa p.os.length oc, .slice va p.vs.length vc] 26)
      have h0 := (Below.heap_alloc _ (.cells #[sV f.name, .int .i64 f.params, .int .i64 f.regs, .int .i64 f.prio, .bool f.cl, .slice ca f.code.length cc] 47) _ (lt_of_block h0)).trans h0
      have k0 := (hW.below.block _ (lt_of_block h0)).trans h0
      have h1 := alloc_here (w.alloc (.cells #[.slice fa p.fs.length fc, .slice oa p.os.length oc, .slice va p.vs.length vc] 26)) (.cells #[sV f.name, .int .i64 f.params, .int .i64 f.regs, .int .i64 f.prio, .bool f.cl, .slice ca f.code.length cc] 47)
      simp only [World.size_alloc] at h1
      have k1 := (hW.below.block _ (lt_of_block h1)).trans h1
      exact ⟨cell_of k0 rfl, cell_of k0 rfl, cell_of k0 rfl, cell_of k1 rfl, cell_of k1 rfl, cell_of k1 rfl, cell_of k1 rfl, cell_of k1 rfl, cell_of k1 rfl⟩)
    have HWZ := Lib.hid (show wk.heap.size = w.heap.size + 2 by rw [hwk]; simp)
    have HW := Lib.hid (show Ext w wk by rw [hwk]; exact (ext_alloc (ext_alloc (Below.refl _ _) _) _))
    have HE0 := Lib.hid (show Ext wk wk from Below.refl _ _)
    generalize f.name = fnm at *
    generalize f.params = fpa at *
    generalize f.regs = rg at *
    generalize f.prio = fpr at *
    generalize f.cl = fcl at *
    go_enter Tryz.func126, Tryz.ntmps126
    go_wp2_with fail
    rw [← hwk]
    clear hwk
    obtain ⟨d0_0, d0_1, d0_2, d1_0, d1_1, d1_2, d1_3, d1_4, d1_5⟩ := BX.out _ HE0.out
    have ud0_0 := fun U : Up _ => Up.cell d0_0 U
    have ud0_1 := fun U : Up _ => Up.cell d0_1 U
    have ud0_2 := fun U : Up _ => Up.cell d0_2 U
    have ud1_0 := fun U : Up _ => Up.cell d1_0 U
    have ud1_1 := fun U : Up _ => Up.cell d1_1 U
    have ud1_2 := fun U : Up _ => Up.cell d1_2 U
    have ud1_3 := fun U : Up _ => Up.cell d1_3 U
    have ud1_4 := fun U : Up _ => Up.cell d1_4 U
    have ud1_5 := fun U : Up _ => Up.cell d1_5 U
    refine wp_region_up (by kernel_rfl) (by kernel_rfl) ?_
    repeat (go_big_quiet_step (fail))
    refine wpQuiet_nil ?_
    rintro _ ⟨U, rfl⟩
    have HE1 := Lib.hid (Ext.trans HE0.out U.ext)
    generalize U.W = w1 at *
    clear ud0_0 d0_0 ud0_1 d0_1 ud0_2 d0_2 ud1_0 d1_0 ud1_1 d1_1 ud1_2 d1_2 ud1_3 d1_3 ud1_4 d1_4 ud1_5 d1_5
    go_wp2_with fail
    refine (K.out _).mono ?_
    rintro _ v1 ⟨rfl, hv1⟩
    rw [hv1]
    clear hv1 v1
    obtain ⟨d0_0, d0_1, d0_2, d1_0, d1_1, d1_2, d1_3, d1_4, d1_5⟩ := BX.out _ HE1.out
    go_wp2
    go_ret
    exact ⟨by rw [HR.out]; rfl, Ext.trans HW.out HE1.out⟩
  | false =>
    have HR := Lib.hid (show ckOpd p f ⟨5, kd⟩ n = 2 by simp [ckOpd, hb])

    generalize ckOpd p f ⟨5, kd⟩ n = res at *
    have K := fun W => between_any n (-1) (f.regs - 1) W
    simp only [hb] at K
    have K := Lib.hid K
    clear h hb
    obtain ⟨wk, hwk⟩ : ∃ W, W = ((w.alloc (.cells #[.slice fa p.fs.length fc, .slice oa p.os.length oc, .slice va p.vs.length vc] 26)).alloc (.cells #[sV f.name, .int .i64 f.params, .int .i64 f.regs, .int .i64 f.prio, .bool f.cl, .slice ca f.code.length cc] 47)) := ⟨_, rfl⟩
    have BX := Lib.hid (show ∀ W, Ext wk W → (W.cell? ⟨w.heap.size, 0, none⟩ = some (.slice fa p.fs.length fc) ∧ W.cell? ⟨w.heap.size, 1, none⟩ = some (.slice oa p.os.length oc) ∧ W.cell? ⟨w.heap.size, 2, none⟩ = some (.slice va p.vs.length vc) ∧ W.cell? ⟨w.heap.size + 1, 0, none⟩ = some (sV f.name) ∧ W.cell? ⟨w.heap.size + 1, 1, none⟩ = some (.int .i64 f.params) ∧ W.cell? ⟨w.heap.size + 1, 2, none⟩ = some (.int .i64 f.regs) ∧ W.cell? ⟨w.heap.size + 1, 3, none⟩ = some (.int .i64 f.prio) ∧ W.cell? ⟨w.heap.size + 1, 4, none⟩ = some (.bool f.cl) ∧ W.cell? ⟨w.heap.size + 1, 5, none⟩ = some (.slice ca f.code.length cc)) from fun W hW => by
      subst hwk
      have h0 := alloc_here w (.cells #[.slice fa p.fs.length fc, .slice oa p.os.length oc, .slice va p.vs.length vc] 26)
      have h0 := (Below.heap_alloc _ (.cells #[sV f.name, .int .i64 f.params, .int .i64 f.regs, .int .i64 f.prio, .bool f.cl, .slice ca f.code.length cc] 47) _ (lt_of_block h0)).trans h0
      have k0 := (hW.below.block _ (lt_of_block h0)).trans h0
      have h1 := alloc_here (w.alloc (.cells #[.slice fa p.fs.length fc, .slice oa p.os.length oc, .slice va p.vs.length vc] 26)) (.cells #[sV f.name, .int .i64 f.params, .int .i64 f.regs, .int .i64 f.prio, .bool f.cl, .slice ca f.code.length cc] 47)
      simp only [World.size_alloc] at h1
      have k1 := (hW.below.block _ (lt_of_block h1)).trans h1
      exact ⟨cell_of k0 rfl, cell_of k0 rfl, cell_of k0 rfl, cell_of k1 rfl, cell_of k1 rfl, cell_of k1 rfl, cell_of k1 rfl, cell_of k1 rfl, cell_of k1 rfl⟩)
    have HWZ := Lib.hid (show wk.heap.size = w.heap.size + 2 by rw [hwk]; simp)
    have HW := Lib.hid (show Ext w wk by rw [hwk]; exact (ext_alloc (ext_alloc (Below.refl _ _) _) _))
    have HE0 := Lib.hid (show Ext wk wk from Below.refl _ _)
    generalize f.name = fnm at *
    generalize f.params = fpa at *
    generalize f.regs = rg at *
    generalize f.prio = fpr at *
    generalize f.cl = fcl at *
    go_enter Tryz.func126, Tryz.ntmps126
    go_wp2_with fail
    rw [← hwk]
    clear hwk
    obtain ⟨d0_0, d0_1, d0_2, d1_0, d1_1, d1_2, d1_3, d1_4, d1_5⟩ := BX.out _ HE0.out
    have ud0_0 := fun U : Up _ => Up.cell d0_0 U
    have ud0_1 := fun U : Up _ => Up.cell d0_1 U
    have ud0_2 := fun U : Up _ => Up.cell d0_2 U
    have ud1_0 := fun U : Up _ => Up.cell d1_0 U
    have ud1_1 := fun U : Up _ => Up.cell d1_1 U
    have ud1_2 := fun U : Up _ => Up.cell d1_2 U
    have ud1_3 := fun U : Up _ => Up.cell d1_3 U
    have ud1_4 := fun U : Up _ => Up.cell d1_4 U
    have ud1_5 := fun U : Up _ => Up.cell d1_5 U
    refine wp_region_up (by kernel_rfl) (by kernel_rfl) ?_
    repeat (go_big_quiet_step (fail))
    refine wpQuiet_nil ?_
    rintro _ ⟨U, rfl⟩
    have HE1 := Lib.hid (Ext.trans HE0.out U.ext)
    generalize U.W = w1 at *
    clear ud0_0 d0_0 ud0_1 d0_1 ud0_2 d0_2 ud1_0 d1_0 ud1_1 d1_1 ud1_2 d1_2 ud1_3 d1_3 ud1_4 d1_4 ud1_5 d1_5
    go_wp2_with fail
    refine (K.out _).mono ?_
    rintro _ v1 ⟨rfl, hv1⟩
    rw [hv1]
    clear hv1 v1
    obtain ⟨d0_0, d0_1, d0_2, d1_0, d1_1, d1_2, d1_3, d1_4, d1_5⟩ := BX.out _ HE1.out
    go_wp2
    go_ret
    exact ⟨by rw [HR.out]; rfl, Ext.trans HW.out HE1.out⟩

set_option maxRecDepth 100000 in
set_option maxHeartbeats 2000000 in
theorem rop_6 (p : Pg) (A : PA) (f : Fn) (ca : Option Addr) (cc : Nat) (kd n : Int) (w : World) (h : CkAt w p A f ca) (hn : i64 n) :
    Gives Tryz.prog 126 #[PV p A, FV f ca cc, .int .u8 116, .int .i64 n] w (.int .i64 (ckOpd p f ⟨6, kd⟩ n)) := by
  unfold Gives
  obtain ⟨fa, fc, oa, oc, va, vc⟩ := A
  dsimp only [PV, FV]
  obtain ⟨hn1, hn2⟩ := hn
  obtain ⟨hr1, hr2⟩ := h.regs
  have hlc := h.fwf.len
  have hlf := h.pg.wf.nf
  have hlo := h.pg.wf.no
  have hlv := h.pg.wf.nv
  cases hb : inB n 0 ((f.code.length : Int) - 1) with
  | true =>
    have HR := Lib.hid (show ckOpd p f ⟨6, kd⟩ n = 0 by simp [ckOpd, hb])

    generalize ckOpd p f ⟨6, kd⟩ n = res at *
    have K := fun W => between_any n 0 ((f.code.length : Int) - 1) W
    simp only [hb] at K
    have K := Lib.hid K
    clear h hb
    obtain ⟨wk, hwk⟩ : ∃ W, W = ((w.alloc (.cells #[.slice fa p.fs.length fc, .slice oa p.os.length oc, .slice va p.vs.length vc] 26)).alloc (.cells #[sV f.name, .int .i64 f.params, .int .i64 f.regs, .int .i64 f.prio, .bool f.cl, .slice ca f.code.length cc] 47)) := ⟨_, rfl⟩
    have BX := Lib.hid (show ∀ W, Ext wk W → (W.cell? ⟨w.heap.size, 0, none⟩ = some (.slice fa p.fs.length fc) ∧ W.cell? ⟨w.heap.size, 1, none⟩ = some (.slice oa p.os.length oc) ∧ W.cell? ⟨w.heap.size, 2, none⟩ = some (.slice va p.vs.length vc) ∧ W.cell? ⟨w.heap.size + 1, 0, none⟩ = some (sV f.name) ∧ W.cell? ⟨w.heap.size + 1, 1, none⟩ = some (.int .i64 f.params) ∧ W.cell? ⟨w.heap.size + 1, 2, none⟩ = some (.int .i64 f.regs) ∧ W.cell? ⟨w.heap.size + 1, 3, none⟩ = some (.int .i64 f.prio) ∧ W.cell? ⟨w.heap.size + 1, 4, none⟩ = some (.bool f.cl) ∧ W.cell? ⟨w.heap.size + 1, 5, none⟩ = some (.slice ca f.code.length cc)) from fun W hW => by
      subst hwk
      have h0 := alloc_here w (.cells #[.slice fa p.fs.length fc, .slice oa p.os.length oc, .slice va p.vs.length vc] 26)
      have h0 := (Below.heap_alloc _ (.cells #[sV f.name, .int .i64 f.params, .int .i64 f.regs, .int .i64 f.prio, .bool f.cl, .slice ca f.code.length cc] 47) _ (lt_of_block h0)).trans h0
      have k0 := (hW.below.block _ (lt_of_block h0)).trans h0
      have h1 := alloc_here (w.alloc (.cells #[.slice fa p.fs.length fc, .slice oa p.os.length oc, .slice va p.vs.length vc] 26)) (.cells #[sV f.name, .int .i64 f.params, .int .i64 f.regs, .int .i64 f.prio, .bool f.cl, .slice ca f.code.length cc] 47)
      simp only [World.size_alloc] at h1
      have k1 := (hW.below.block _ (lt_of_block h1)).trans h1
      exact ⟨cell_of k0 rfl, cell_of k0 rfl, cell_of k0 rfl, cell_of k1 rfl, cell_of k1 rfl, cell_of k1 rfl, cell_of k1 rfl, cell_of k1 rfl, cell_of k1 rfl⟩)
    have HWZ := Lib.hid (show wk.heap.size = w.heap.size + 2 by rw [hwk]; simp)
    have HW := Lib.hid (show Ext w wk by rw [hwk]; exact (ext_alloc (ext_alloc (Below.refl _ _) _) _))
    have HE0 := Lib.hid (show Ext wk wk from Below.refl _ _)
    generalize f.name = fnm at *
    generalize f.params = fpa at *
    generalize f.regs = rg at *
    generalize f.prio = fpr at *
    generalize f.cl = fcl at *
    go_enter Tryz.func126, Tryz.ntmps126
    go_wp2_with fail
    rw [← hwk]
    clear hwk
    refine (K.out _).mono ?_
    rintro _ v1 ⟨rfl, hv1⟩
    rw [hv1]
    clear hv1 v1
    obtain ⟨d0_0, d0_1, d0_2, d1_0, d1_1, d1_2, d1_3, d1_4, d1_5⟩ := BX.out _ HE0.out
    go_wp2
    go_ret
    exact ⟨by rw [HR.out]; rfl, Ext.trans HW.out HE0.out⟩
  | false =>
    have HR := Lib.hid (show ckOpd p f ⟨6, kd⟩ n = 2 by simp [ckOpd, hb])

    generalize ckOpd p f ⟨6, kd⟩ n = res at *
    have K := fun W => between_any n 0 ((f.code.length : Int) - 1) W
    simp only [hb] at K
    have K := Lib.hid K
    clear h hb
    obtain ⟨wk, hwk⟩ : ∃ W, W = ((w.alloc (.cells #[.slice fa p.fs.length fc, .slice oa p.os.length oc, .slice va p.vs.length vc] 26)).alloc (.cells #[sV f.name, .int .i64 f.params, .int .i64 f.regs, .int .i64 f.prio, .bool f.cl, .slice ca f.code.length cc] 47)) := ⟨_, rfl⟩
    have BX := Lib.hid (show ∀ W, Ext wk W → (W.cell? ⟨w.heap.size, 0, none⟩ = some (.slice fa p.fs.length fc) ∧ W.cell? ⟨w.heap.size, 1, none⟩ = some (.slice oa p.os.length oc) ∧ W.cell? ⟨w.heap.size, 2, none⟩ = some (.slice va p.vs.length vc) ∧ W.cell? ⟨w.heap.size + 1, 0, none⟩ = some (sV f.name) ∧ W.cell? ⟨w.heap.size + 1, 1, none⟩ = some (.int .i64 f.params) ∧ W.cell? ⟨w.heap.size + 1, 2, none⟩ = some (.int .i64 f.regs) ∧ W.cell? ⟨w.heap.size + 1, 3, none⟩ = some (.int .i64 f.prio) ∧ W.cell? ⟨w.heap.size + 1, 4, none⟩ = some (.bool f.cl) ∧ W.cell? ⟨w.heap.size + 1, 5, none⟩ = some (.slice ca f.code.length cc)) from fun W hW => by
      subst hwk
      have h0 := alloc_here w (.cells #[.slice fa p.fs.length fc, .slice oa p.os.length oc, .slice va p.vs.length vc] 26)
      have h0 := (Below.heap_alloc _ (.cells #[sV f.name, .int .i64 f.params, .int .i64 f.regs, .int .i64 f.prio, .bool f.cl, .slice ca f.code.length cc] 47) _ (lt_of_block h0)).trans h0
      have k0 := (hW.below.block _ (lt_of_block h0)).trans h0
      have h1 := alloc_here (w.alloc (.cells #[.slice fa p.fs.length fc, .slice oa p.os.length oc, .slice va p.vs.length vc] 26)) (.cells #[sV f.name, .int .i64 f.params, .int .i64 f.regs, .int .i64 f.prio, .bool f.cl, .slice ca f.code.length cc] 47)
      simp only [World.size_alloc] at h1
      have k1 := (hW.below.block _ (lt_of_block h1)).trans h1
      exact ⟨cell_of k0 rfl, cell_of k0 rfl, cell_of k0 rfl, cell_of k1 rfl, cell_of k1 rfl, cell_of k1 rfl, cell_of k1 rfl, cell_of k1 rfl, cell_of k1 rfl⟩)
    have HWZ := Lib.hid (show wk.heap.size = w.heap.size + 2 by rw [hwk]; simp)
    have HW := Lib.hid (show Ext w wk by rw [hwk]; exact (ext_alloc (ext_alloc (Below.refl _ _) _) _))
    have HE0 := Lib.hid (show Ext wk wk from Below.refl _ _)
    generalize f.name = fnm at *
    generalize f.params = fpa at *
    generalize f.regs = rg at *
    generalize f.prio = fpr at *
    generalize f.cl = fcl at *
    go_enter Tryz.func126, Tryz.ntmps126
    go_wp2_with fail
    rw [← hwk]
    clear hwk
    refine (K.out _).mono ?_
    rintro _ v1 ⟨rfl, hv1⟩
    rw [hv1]
    clear hv1 v1
    obtain ⟨d0_0, d0_1, d0_2, d1_0, d1_1, d1_2, d1_3, d1_4, d1_5⟩ := BX.out _ HE0.out
    go_wp2
    go_ret
    exact ⟨by rw [HR.out]; rfl, Ext.trans HW.out HE0.out⟩

set_option maxRecDepth 100000 in
set_option maxHeartbeats 2000000 in
theorem rop_7 (p : Pg) (A : PA) (f : Fn) (ca : Option Addr) (cc : Nat) (kd n : Int) (w : World) (h : CkAt w p A f ca) (hn : i64 n) :
    Gives Tryz.prog 126 #[PV p A, FV f ca cc, .int .u8 99, .int .i64 n] w (.int .i64 (ckOpd p f ⟨7, kd⟩ n)) := by
  unfold Gives
  obtain ⟨fa, fc, oa, oc, va, vc⟩ := A
  dsimp only [PV, FV]
  obtain ⟨hn1, hn2⟩ := hn
  obtain ⟨hr1, hr2⟩ := h.regs
  have hlc := h.fwf.len
  have hlf := h.pg.wf.nf
  have hlo := h.pg.wf.no
  have hlv := h.pg.wf.nv
  cases hb : inB n 0 ((f.code.length : Int) - 1) with
  | false =>
    have HR := Lib.hid (show ckOpd p f ⟨7, kd⟩ n = 2 by simp [ckOpd, hb])
    generalize ckOpd p f ⟨7, kd⟩ n = res at *
    have K := fun W => between_any n 0 ((f.code.length : Int) - 1) W
    simp only [hb] at K
    have K := Lib.hid K
    clear h hb
    obtain ⟨wk, hwk⟩ : ∃ W, W = ((w.alloc (.cells #[.slice fa p.fs.length fc, .slice oa p.os.length oc, .slice va p.vs.length vc] 26)).alloc (.cells #[sV f.name, .int .i64 f.params, .int .i64 f.regs, .int .i64 f.prio, .bool f.cl, .slice ca f.code.length cc] 47)) := ⟨_, rfl⟩
    have BX := Lib.hid (show ∀ W, Ext wk W → (W.cell? ⟨w.heap.size, 0, none⟩ = some (.slice fa p.fs.length fc) ∧ W.cell? ⟨w.heap.size, 1, none⟩ = some (.slice oa p.os.length oc) ∧ W.cell? ⟨w.heap.size, 2, none⟩ = some (.slice va p.vs.length vc) ∧ W.cell? ⟨w.heap.size + 1, 0, none⟩ = some (sV f.name) ∧ W.cell? ⟨w.heap.size + 1, 1, none⟩ = some (.int .i64 f.params) ∧ W.cell? ⟨w.heap.size + 1, 2, none⟩ = some (.int .i64 f.regs) ∧ W.cell? ⟨w.heap.size + 1, 3, none⟩ = some (.int .i64 f.prio) ∧ W.cell? ⟨w.heap.size + 1, 4, none⟩ = some (.bool f.cl) ∧ W.cell? ⟨w.heap.size + 1, 5, none⟩ = some (.slice ca f.code.length cc)) from fun W hW => by
      subst hwk
      have h0 := alloc_here w (.cells #[.slice fa p.fs.length fc, .slice oa p.os.length oc, .slice va p.vs.length vc] 26)
      have h0 := (Below.heap_alloc _ (.cells #[sV f.name, .int .i64 f.params, .int .i64 f.regs, .int .i64 f.prio, .bool f.cl, .slice ca f.code.length cc] 47) _ (lt_of_block h0)).trans h0
      have k0 := (hW.below.block _ (lt_of_block h0)).trans h0
      have h1 := alloc_here (w.alloc (.cells #[.slice fa p.fs.length fc, .slice oa p.os.length oc, .slice va p.vs.length vc] 26)) (.cells #[sV f.name, .int .i64 f.params, .int .i64 f.regs, .int .i64 f.prio, .bool f.cl, .slice ca f.code.length cc] 47)
      simp only [World.size_alloc] at h1
      have k1 := (hW.below.block _ (lt_of_block h1)).trans h1
      exact ⟨cell_of k0 rfl, cell_of k0 rfl, cell_of k0 rfl, cell_of k1 rfl, cell_of k1 rfl, cell_of k1 rfl, cell_of k1 rfl, cell_of k1 rfl, cell_of k1 rfl⟩)
    have HWZ := Lib.hid (show wk.heap.size = w.heap.size + 2 by rw [hwk]; simp)
    have HW := Lib.hid (show Ext w wk by rw [hwk]; exact (ext_alloc (ext_alloc (Below.refl _ _) _) _))
    have HE0 := Lib.hid (show Ext wk wk from Below.refl _ _)
    generalize f.name = fnm at *
    generalize f.params = fpa at *
    generalize f.regs = rg at *
    generalize f.prio = fpr at *
    generalize f.cl = fcl at *
    go_enter Tryz.func126, Tryz.ntmps126
    go_wp2_with fail
    rw [← hwk]
    clear hwk
    refine (K.out _).mono ?_
    rintro _ v1 ⟨rfl, hv1⟩
    rw [hv1]
    clear hv1 v1
    obtain ⟨d0_0, d0_1, d0_2, d1_0, d1_1, d1_2, d1_3, d1_4, d1_5⟩ := BX.out _ HE0.out
    go_wp2
    go_ret
    exact ⟨by rw [HR.out]; rfl, Ext.trans HW.out HE0.out⟩
  | true =>
    obtain ⟨m, rfl, hm⟩ := inB_nat hb
    obtain ⟨b', o', a', c', e', hcs, -⟩ := h.code m hm
    subst e'
    have HR0 := Lib.hid (show ckOpd p f ⟨7, kd⟩ m = (if (f.code[m]).op = 36 then 0 else 8) by simp [ckOpd, hb, hm, kindAt])
    generalize ckOpd p f ⟨7, kd⟩ m = res at *
    have K := fun W => between_any m 0 ((f.code.length : Int) - 1) W
    simp only [hb] at K
    have K := Lib.hid K
    have x0 := hcs.c0
    clear h hb hcs
    generalize (f.code[m]).op = tv at *
    by_cases hq : tv = 36
    · have h1 : (tv != 36) = false := by simpa using hq
      have HR := Lib.hid (show res = 0 by rw [HR0.out]; simp [hq])
      clear HR0
      clear hq
      obtain ⟨wk, hwk⟩ : ∃ W, W = ((w.alloc (.cells #[.slice fa p.fs.length fc, .slice oa p.os.length oc, .slice va p.vs.length vc] 26)).alloc (.cells #[sV f.name, .int .i64 f.params, .int .i64 f.regs, .int .i64 f.prio, .bool f.cl, .slice (some ⟨b', o', none⟩) f.code.length cc] 47)) := ⟨_, rfl⟩
      have BX := Lib.hid (show ∀ W, Ext wk W → (W.cell? ⟨w.heap.size, 0, none⟩ = some (.slice fa p.fs.length fc) ∧ W.cell? ⟨w.heap.size, 1, none⟩ = some (.slice oa p.os.length oc) ∧ W.cell? ⟨w.heap.size, 2, none⟩ = some (.slice va p.vs.length vc) ∧ W.cell? ⟨w.heap.size + 1, 0, none⟩ = some (sV f.name) ∧ W.cell? ⟨w.heap.size + 1, 1, none⟩ = some (.int .i64 f.params) ∧ W.cell? ⟨w.heap.size + 1, 2, none⟩ = some (.int .i64 f.regs) ∧ W.cell? ⟨w.heap.size + 1, 3, none⟩ = some (.int .i64 f.prio) ∧ W.cell? ⟨w.heap.size + 1, 4, none⟩ = some (.bool f.cl) ∧ W.cell? ⟨w.heap.size + 1, 5, none⟩ = some (.slice (some ⟨b', o', none⟩) f.code.length cc)) from fun W hW => by
        subst hwk
        have h0 := alloc_here w (.cells #[.slice fa p.fs.length fc, .slice oa p.os.length oc, .slice va p.vs.length vc] 26)
        have h0 := (Below.heap_alloc _ (.cells #[sV f.name, .int .i64 f.params, .int .i64 f.regs, .int .i64 f.prio, .bool f.cl, .slice (some ⟨b', o', none⟩) f.code.length cc] 47) _ (lt_of_block h0)).trans h0
        have k0 := (hW.below.block _ (lt_of_block h0)).trans h0
        have h1 := alloc_here (w.alloc (.cells #[.slice fa p.fs.length fc, .slice oa p.os.length oc, .slice va p.vs.length vc] 26)) (.cells #[sV f.name, .int .i64 f.params, .int .i64 f.regs, .int .i64 f.prio, .bool f.cl, .slice (some ⟨b', o', none⟩) f.code.length cc] 47)
        simp only [World.size_alloc] at h1
        have k1 := (hW.below.block _ (lt_of_block h1)).trans h1
        exact ⟨cell_of k0 rfl, cell_of k0 rfl, cell_of k0 rfl, cell_of k1 rfl, cell_of k1 rfl, cell_of k1 rfl, cell_of k1 rfl, cell_of k1 rfl, cell_of k1 rfl⟩)
      have HWZ := Lib.hid (show wk.heap.size = w.heap.size + 2 by rw [hwk]; simp)
      have HW := Lib.hid (show Ext w wk by rw [hwk]; exact (ext_alloc (ext_alloc (Below.refl _ _) _) _))
      have HE0 := Lib.hid (show Ext wk wk from Below.refl _ _)
      generalize f.name = fnm at *
      generalize f.params = fpa at *
      generalize f.regs = rg at *
      generalize f.prio = fpr at *
      generalize f.cl = fcl at *
      have x1 := cell_ext x0 HW.out
      clear x0
      go_enter Tryz.func126, Tryz.ntmps126
      go_wp2_with fail
      rw [← hwk]
      clear hwk
      refine (K.out _).mono ?_
      rintro _ v1 ⟨rfl, hv1⟩
      rw [hv1]
      clear hv1 v1
      obtain ⟨d0_0, d0_1, d0_2, d1_0, d1_1, d1_2, d1_3, d1_4, d1_5⟩ := BX.out _ HE0.out
      go_wp2
      go_ret
      exact ⟨by rw [HR.out]; rfl, Ext.trans HW.out HE0.out⟩
    · have h1 : (tv != 36) = true := by simpa using hq
      have HR := Lib.hid (show res = 8 by rw [HR0.out]; simp [hq])
      clear HR0
      clear hq
      obtain ⟨wk, hwk⟩ : ∃ W, W = ((w.alloc (.cells #[.slice fa p.fs.length fc, .slice oa p.os.length oc, .slice va p.vs.length vc] 26)).alloc (.cells #[sV f.name, .int .i64 f.params, .int .i64 f.regs, .int .i64 f.prio, .bool f.cl, .slice (some ⟨b', o', none⟩) f.code.length cc] 47)) := ⟨_, rfl⟩
      have BX := Lib.hid (show ∀ W, Ext wk W → (W.cell? ⟨w.heap.size, 0, none⟩ = some (.slice fa p.fs.length fc) ∧ W.cell? ⟨w.heap.size, 1, none⟩ = some (.slice oa p.os.length oc) ∧ W.cell? ⟨w.heap.size, 2, none⟩ = some (.slice va p.vs.length vc) ∧ W.cell? ⟨w.heap.size + 1, 0, none⟩ = some (sV f.name) ∧ W.cell? ⟨w.heap.size + 1, 1, none⟩ = some (.int .i64 f.params) ∧ W.cell? ⟨w.heap.size + 1, 2, none⟩ = some (.int .i64 f.regs) ∧ W.cell? ⟨w.heap.size + 1, 3, none⟩ = some (.int .i64 f.prio) ∧ W.cell? ⟨w.heap.size + 1, 4, none⟩ = some (.bool f.cl) ∧ W.cell? ⟨w.heap.size + 1, 5, none⟩ = some (.slice (some ⟨b', o', none⟩) f.code.length cc)) from fun W hW => by
        subst hwk
        have h0 := alloc_here w (.cells #[.slice fa p.fs.length fc, .slice oa p.os.length oc, .slice va p.vs.length vc] 26)
        have h0 := (Below.heap_alloc _ (.cells #[sV f.name, .int .i64 f.params, .int .i64 f.regs, .int .i64 f.prio, .bool f.cl, .slice (some ⟨b', o', none⟩) f.code.length cc] 47) _ (lt_of_block h0)).trans h0
        have k0 := (hW.below.block _ (lt_of_block h0)).trans h0
        have h1 := alloc_here (w.alloc (.cells #[.slice fa p.fs.length fc, .slice oa p.os.length oc, .slice va p.vs.length vc] 26)) (.cells #[sV f.name, .int .i64 f.params, .int .i64 f.regs, .int .i64 f.prio, .bool f.cl, .slice (some ⟨b', o', none⟩) f.code.length cc] 47)
        simp only [World.size_alloc] at h1
        have k1 := (hW.below.block _ (lt_of_block h1)).trans h1
        exact ⟨cell_of k0 rfl, cell_of k0 rfl, cell_of k0 rfl, cell_of k1 rfl, cell_of k1 rfl, cell_of k1 rfl, cell_of k1 rfl, cell_of k1 rfl, cell_of k1 rfl⟩)
      have HWZ := Lib.hid (show wk.heap.size = w.heap.size + 2 by rw [hwk]; simp)
      have HW := Lib.hid (show Ext w wk by rw [hwk]; exact (ext_alloc (ext_alloc (Below.refl _ _) _) _))
      have HE0 := Lib.hid (show Ext wk wk from Below.refl _ _)
      generalize f.name = fnm at *
      generalize f.params = fpa at *
      generalize f.regs = rg at *
      generalize f.prio = fpr at *
      generalize f.cl = fcl at *
      have x1 := cell_ext x0 HW.out
      clear x0
      go_enter Tryz.func126, Tryz.ntmps126
      go_wp2_with fail
      rw [← hwk]
      clear hwk
      refine (K.out _).mono ?_
      rintro _ v1 ⟨rfl, hv1⟩
      rw [hv1]
      clear hv1 v1
      obtain ⟨d0_0, d0_1, d0_2, d1_0, d1_1, d1_2, d1_3, d1_4, d1_5⟩ := BX.out _ HE0.out
      go_wp2
      go_ret
      exact ⟨by rw [HR.out]; rfl, Ext.trans HW.out HE0.out⟩

set_option maxRecDepth 100000 in
set_option maxHeartbeats 2000000 in
theorem rop_8 (p : Pg) (A : PA) (f : Fn) (ca : Option Addr) (cc : Nat) (kd n : Int) (w : World) (h : CkAt w p A f ca) (hn : i64 n) :
    Gives Tryz.prog 126 #[PV p A, FV f ca cc, .int .u8 102, .int .i64 n] w (.int .i64 (ckOpd p f ⟨8, kd⟩ n)) := by
  unfold Gives
  obtain ⟨fa, fc, oa, oc, va, vc⟩ := A
  dsimp only [PV, FV]
  obtain ⟨hn1, hn2⟩ := hn
  obtain ⟨hr1, hr2⟩ := h.regs
  have hlc := h.fwf.len
  have hlf := h.pg.wf.nf
  have hlo := h.pg.wf.no
  have hlv := h.pg.wf.nv
  cases hb : inB n 0 ((p.fs.length : Int) - 1) with
  | false =>
    have HR := Lib.hid (show ckOpd p f ⟨8, kd⟩ n = 2 by simp [ckOpd, hb])
    generalize ckOpd p f ⟨8, kd⟩ n = res at *
    have K := fun W => between_any n 0 ((p.fs.length : Int) - 1) W
    simp only [hb] at K
    have K := Lib.hid K
    clear h hb
    obtain ⟨wk, hwk⟩ : ∃ W, W = ((w.alloc (.cells #[.slice fa p.fs.length fc, .slice oa p.os.length oc, .slice va p.vs.length vc] 26)).alloc (.cells #[sV f.name, .int .i64 f.params, .int .i64 f.regs, .int .i64 f.prio, .bool f.cl, .slice ca f.code.length cc] 47)) := ⟨_, rfl⟩
    have BX := Lib.hid (show ∀ W, Ext wk W → (W.cell? ⟨w.heap.size, 0, none⟩ = some (.slice fa p.fs.length fc) ∧ W.cell? ⟨w.heap.size, 1, none⟩ = some (.slice oa p.os.length oc) ∧ W.cell? ⟨w.heap.size, 2, none⟩ = some (.slice va p.vs.length vc) ∧ W.cell? ⟨w.heap.size + 1, 0, none⟩ = some (sV f.name) ∧ W.cell? ⟨w.heap.size + 1, 1, none⟩ = some (.int .i64 f.params) ∧ W.cell? ⟨w.heap.size + 1, 2, none⟩ = some (.int .i64 f.regs) ∧ W.cell? ⟨w.heap.size + 1, 3, none⟩ = some (.int .i64 f.prio) ∧ W.cell? ⟨w.heap.size + 1, 4, none⟩ = some (.bool f.cl) ∧ W.cell? ⟨w.heap.size + 1, 5, none⟩ = some (.slice ca f.code.length cc)) from fun W hW => by
      subst hwk
      have h0 := alloc_here w (.cells #[.slice fa p.fs.length fc, .slice oa p.os.length oc, .slice va p.vs.length vc] 26)
      have h0 := (Below.heap_alloc _ (.cells #[sV f.name, .int .i64 f.params, .int .i64 f.regs, .int .i64 f.prio, .bool f.cl, .slice ca f.code.length cc] 47) _ (lt_of_block h0)).trans h0
      have k0 := (hW.below.block _ (lt_of_block h0)).trans h0
      have h1 := alloc_here (w.alloc (.cells #[.slice fa p.fs.length fc, .slice oa p.os.length oc, .slice va p.vs.length vc] 26)) (.cells #[sV f.name, .int .i64 f.params, .int .i64 f.regs, .int .i64 f.prio, .bool f.cl, .slice ca f.code.length cc] 47)
      simp only [World.size_alloc] at h1
      have k1 := (hW.below.block _ (lt_of_block h1)).trans h1
      exact ⟨cell_of k0 rfl, cell_of k0 rfl, cell_of k0 rfl, cell_of k1 rfl, cell_of k1 rfl, cell_of k1 rfl, cell_of k1 rfl, cell_of k1 rfl, cell_of k1 rfl⟩)
    have HWZ := Lib.hid (show wk.heap.size = w.heap.size + 2 by rw [hwk]; simp)
    have HW := Lib.hid (show Ext w wk by rw [hwk]; exact (ext_alloc (ext_alloc (Below.refl _ _) _) _))
    have HE0 := Lib.hid (show Ext wk wk from Below.refl _ _)
    generalize f.name = fnm at *
    generalize f.params = fpa at *
    generalize f.regs = rg at *
    generalize f.prio = fpr at *
    generalize f.cl = fcl at *
    go_enter Tryz.func126, Tryz.ntmps126
    go_wp2_with fail
    rw [← hwk]
    clear hwk
    refine (K.out _).mono ?_
    rintro _ v1 ⟨rfl, hv1⟩
    rw [hv1]
    clear hv1 v1
    obtain ⟨d0_0, d0_1, d0_2, d1_0, d1_1, d1_2, d1_3, d1_4, d1_5⟩ := BX.out _ HE0.out
    go_wp2
    go_ret
    exact ⟨by rw [HR.out]; rfl, Ext.trans HW.out HE0.out⟩
  | true =>
    obtain ⟨m, rfl, hm⟩ := inB_nat hb
    obtain ⟨b', o', a', c', e', hcs, -⟩ := h.pg.fs m hm
    dsimp only at e'
    subst e'
    have HR0 := Lib.hid (show ckOpd p f ⟨8, kd⟩ m = (if (p.fs[m]).cl = false then 0 else 16) by simp [ckOpd, hb, hm, kindAt])
    generalize ckOpd p f ⟨8, kd⟩ m = res at *
    have K := fun W => between_any m 0 ((p.fs.length : Int) - 1) W
    simp only [hb] at K
    have K := Lib.hid K
    have x0 := hcs.c4
    clear h hb hcs
    generalize (p.fs[m]).cl = tv at *
    by_cases hq : tv = false
    · have h1 := hq
      subst h1
      have HR := Lib.hid (show res = 0 by rw [HR0.out]; simp [hq])
      clear HR0
      obtain ⟨wk, hwk⟩ : ∃ W, W = ((w.alloc (.cells #[.slice (some ⟨b', o', none⟩) p.fs.length fc, .slice oa p.os.length oc, .slice va p.vs.length vc] 26)).alloc (.cells #[sV f.name, .int .i64 f.params, .int .i64 f.regs, .int .i64 f.prio, .bool f.cl, .slice ca f.code.length cc] 47)) := ⟨_, rfl⟩
      have BX := Lib.hid (show ∀ W, Ext wk W → (W.cell? ⟨w.heap.size, 0, none⟩ = some (.slice (some ⟨b', o', none⟩) p.fs.length fc) ∧ W.cell? ⟨w.heap.size, 1, none⟩ = some (.slice oa p.os.length oc) ∧ W.cell? ⟨w.heap.size, 2, none⟩ = some (.slice va p.vs.length vc) ∧ W.cell? ⟨w.heap.size + 1, 0, none⟩ = some (sV f.name) ∧ W.cell? ⟨w.heap.size + 1, 1, none⟩ = some (.int .i64 f.params) ∧ W.cell? ⟨w.heap.size + 1, 2, none⟩ = some (.int .i64 f.regs) ∧ W.cell? ⟨w.heap.size + 1, 3, none⟩ = some (.int .i64 f.prio) ∧ W.cell? ⟨w.heap.size + 1, 4, none⟩ = some (.bool f.cl) ∧ W.cell? ⟨w.heap.size + 1, 5, none⟩ = some (.slice ca f.code.length cc)) from fun W hW => by
        subst hwk
        have h0 := alloc_here w (.cells #[.slice (some ⟨b', o', none⟩) p.fs.length fc, .slice oa p.os.length oc, .slice va p.vs.length vc] 26)
        have h0 := (Below.heap_alloc _ (.cells #[sV f.name, .int .i64 f.params, .int .i64 f.regs, .int .i64 f.prio, .bool f.cl, .slice ca f.code.length cc] 47) _ (lt_of_block h0)).trans h0
        have k0 := (hW.below.block _ (lt_of_block h0)).trans h0
        have h1 := alloc_here (w.alloc (.cells #[.slice (some ⟨b', o', none⟩) p.fs.length fc, .slice oa p.os.length oc, .slice va p.vs.length vc] 26)) (.cells #[sV f.name, .int .i64 f.params, .int .i64 f.regs, .int .i64 f.prio, .bool f.cl, .slice ca f.code.length cc] 47)
        simp only [World.size_alloc] at h1
        have k1 := (hW.below.block _ (lt_of_block h1)).trans h1
        exact ⟨cell_of k0 rfl, cell_of k0 rfl, cell_of k0 rfl, cell_of k1 rfl, cell_of k1 rfl, cell_of k1 rfl, cell_of k1 rfl, cell_of k1 rfl, cell_of k1 rfl⟩)
      have HWZ := Lib.hid (show wk.heap.size = w.heap.size + 2 by rw [hwk]; simp)
      have HW := Lib.hid (show Ext w wk by rw [hwk]; exact (ext_alloc (ext_alloc (Below.refl _ _) _) _))
      have HE0 := Lib.hid (show Ext wk wk from Below.refl _ _)
      generalize f.name = fnm at *
      generalize f.params = fpa at *
      generalize f.regs = rg at *
      generalize f.prio = fpr at *
      generalize f.cl = fcl at *
      have x1 := cell_ext x0 HW.out
      clear x0
      go_enter Tryz.func126, Tryz.ntmps126
      go_wp2_with fail
      rw [← hwk]
      clear hwk
      refine (K.out _).mono ?_
      rintro _ v1 ⟨rfl, hv1⟩
      rw [hv1]
      clear hv1 v1
      obtain ⟨d0_0, d0_1, d0_2, d1_0, d1_1, d1_2, d1_3, d1_4, d1_5⟩ := BX.out _ HE0.out
      go_wp2
      go_ret
      exact ⟨by rw [HR.out]; rfl, Ext.trans HW.out HE0.out⟩
    · have h1 : tv = true := by simpa using hq
      subst h1
      have HR := Lib.hid (show res = 16 by rw [HR0.out]; simp [hq])
      clear HR0
      obtain ⟨wk, hwk⟩ : ∃ W, W = ((w.alloc (.cells #[.slice (some ⟨b', o', none⟩) p.fs.length fc, .slice oa p.os.length oc, .slice va p.vs.length vc] 26)).alloc (.cells #[sV f.name, .int .i64 f.params, .int .i64 f.regs, .int .i64 f.prio, .bool f.cl, .slice ca f.code.length cc] 47)) := ⟨_, rfl⟩
      have BX := Lib.hid (show ∀ W, Ext wk W → (W.cell? ⟨w.heap.size, 0, none⟩ = some (.slice (some ⟨b', o', none⟩) p.fs.length fc) ∧ W.cell? ⟨w.heap.size, 1, none⟩ = some (.slice oa p.os.length oc) ∧ W.cell? ⟨w.heap.size, 2, none⟩ = some (.slice va p.vs.length vc) ∧ W.cell? ⟨w.heap.size + 1, 0, none⟩ = some (sV f.name) ∧ W.cell? ⟨w.heap.size + 1, 1, none⟩ = some (.int .i64 f.params) ∧ W.cell? ⟨w.heap.size + 1, 2, none⟩ = some (.int .i64 f.regs) ∧ W.cell? ⟨w.heap.size + 1, 3, none⟩ = some (.int .i64 f.prio) ∧ W.cell? ⟨w.heap.size + 1, 4, none⟩ = some (.bool f.cl) ∧ W.cell? ⟨w.heap.size + 1, 5, none⟩ = some (.slice ca f.code.length cc)) from fun W hW => by
        subst hwk
        have h0 := alloc_here w (.cells #[.slice (some ⟨b', o', none⟩) p.fs.length fc, .slice oa p.os.length oc, .slice va p.vs.length vc] 26)
        have h0 := (Below.heap_alloc _ (.cells #[sV f.name, .int .i64 f.params, .int .i64 f.regs, .int .i64 f.prio, .bool f.cl, .slice ca f.code.length cc] 47) _ (lt_of_block h0)).trans h0
        have k0 := (hW.below.block _ (lt_of_block h0)).trans h0
        have h1 := alloc_here (w.alloc (.cells #[.slice (some ⟨b', o', none⟩) p.fs.length fc, .slice oa p.os.length oc, .slice va p.vs.length vc] 26)) (.cells #[sV f.name, .int .i64 f.params, .int .i64 f.regs, .int .i64 f.prio, .bool f.cl, .slice ca f.code.length cc] 47)
        simp only [World.size_alloc] at h1
        have k1 := (hW.below.block _ (lt_of_block h1)).trans h1
        exact ⟨cell_of k0 rfl, cell_of k0 rfl, cell_of k0 rfl, cell_of k1 rfl, cell_of k1 rfl, cell_of k1 rfl, cell_of k1 rfl, cell_of k1 rfl, cell_of k1 rfl⟩)
      have HWZ := Lib.hid (show wk.heap.size = w.heap.size + 2 by rw [hwk]; simp)
      have HW := Lib.hid (show Ext w wk by rw [hwk]; exact (ext_alloc (ext_alloc (Below.refl _ _) _) _))
      have HE0 := Lib.hid (show Ext wk wk from Below.refl _ _)
      generalize f.name = fnm at *
      generalize f.params = fpa at *
      generalize f.regs = rg at *
      generalize f.prio = fpr at *
      generalize f.cl = fcl at *
      have x1 := cell_ext x0 HW.out
      clear x0
      go_enter Tryz.func126, Tryz.ntmps126
      go_wp2_with fail
      rw [← hwk]
      clear hwk
      refine (K.out _).mono ?_
      rintro _ v1 ⟨rfl, hv1⟩
      rw [hv1]
      clear hv1 v1
      obtain ⟨d0_0, d0_1, d0_2, d1_0, d1_1, d1_2, d1_3, d1_4, d1_5⟩ := BX.out _ HE0.out
      go_wp2
      go_ret
      exact ⟨by rw [HR.out]; rfl, Ext.trans HW.out HE0.out⟩

set_option maxRecDepth 100000 in
set_option maxHeartbeats 2000000 in
theorem rop_9 (p : Pg) (A : PA) (f : Fn) (ca : Option Addr) (cc : Nat) (kd n : Int) (w : World) (h : CkAt w p A f ca) (hn : i64 n) :
    Gives Tryz.prog 126 #[PV p A, FV f ca cc, .int .u8 100, .int .i64 n] w (.int .i64 (ckOpd p f ⟨9, kd⟩ n)) := by
  unfold Gives
  obtain ⟨fa, fc, oa, oc, va, vc⟩ := A
  dsimp only [PV, FV]
  obtain ⟨hn1, hn2⟩ := hn
  obtain ⟨hr1, hr2⟩ := h.regs
  have hlc := h.fwf.len
  have hlf := h.pg.wf.nf
  have hlo := h.pg.wf.no
  have hlv := h.pg.wf.nv
  cases hb : inB n 0 ((p.fs.length : Int) - 1) with
  | false =>
    have HR := Lib.hid (show ckOpd p f ⟨9, kd⟩ n = 2 by simp [ckOpd, hb])
    generalize ckOpd p f ⟨9, kd⟩ n = res at *
    have K := fun W => between_any n 0 ((p.fs.length : Int) - 1) W
    simp only [hb] at K
    have K := Lib.hid K
    clear h hb
    obtain ⟨wk, hwk⟩ : ∃ W, W = ((w.alloc (.cells #[.slice fa p.fs.length fc, .slice oa p.os.length oc, .slice va p.vs.length vc] 26)).alloc (.cells #[sV f.name, .int .i64 f.params, .int .i64 f.regs, .int .i64 f.prio, .bool f.cl, .slice ca f.code.length cc] 47)) := ⟨_, rfl⟩
    have BX := Lib.hid (show ∀ W, Ext wk W → (W.cell? ⟨w.heap.size, 0, none⟩ = some (.slice fa p.fs.length fc) ∧ W.cell? ⟨w.heap.size, 1, none⟩ = some (.slice oa p.os.length oc) ∧ W.cell? ⟨w.heap.size, 2, none⟩ = some (.slice va p.vs.length vc) ∧ W.cell? ⟨w.heap.size + 1, 0, none⟩ = some (sV f.name) ∧ W.cell? ⟨w.heap.size + 1, 1, none⟩ = some (.int .i64 f.params) ∧ W.cell? ⟨w.heap.size + 1, 2, none⟩ = some (.int .i64 f.regs) ∧ W.cell? ⟨w.heap.size + 1, 3, none⟩ = some (.int .i64 f.prio) ∧ W.cell? ⟨w.heap.size + 1, 4, none⟩ = some (.bool f.cl) ∧ W.cell? ⟨w.heap.size + 1, 5, none⟩ = some (.slice ca f.code.length cc)) from fun W hW => by
      subst hwk
      have h0 := alloc_here w (.cells #[.slice fa p.fs.length fc, .slice oa p.os.length oc, .slice va p.vs.length vc] 26)
      have h0 := (Below.heap_alloc _ (.cells #[sV f.name, .int .i64 f.params, .int .i64 f.regs, .int .i64 f.prio, .bool f.cl, .slice ca f.code.length cc] 47) _ (lt_of_block h0)).trans h0
      have k0 := (hW.below.block _ (lt_of_block h0)).trans h0
      have h1 := alloc_here (w.alloc (.cells #[.slice fa p.fs.length fc, .slice oa p.os.length oc, .slice va p.vs.length vc] 26)) (.cells #[sV f.name, .int .i64 f.params, .int .i64 f.regs, .int .i64 f.prio, .bool f.cl, .slice ca f.code.length cc] 47)
      simp only [World.size_alloc] at h1
      have k1 := (hW.below.block _ (lt_of_block h1)).trans h1
      exact ⟨cell_of k0 rfl, cell_of k0 rfl, cell_of k0 rfl, cell_of k1 rfl, cell_of k1 rfl, cell_of k1 rfl, cell_of k1 rfl, cell_of k1 rfl, cell_of k1 rfl⟩)
    have HWZ := Lib.hid (show wk.heap.size = w.heap.size + 2 by rw [hwk]; simp)
    have HW := Lib.hid (show Ext w wk by rw [hwk]; exact (ext_alloc (ext_alloc (Below.refl _ _) _) _))
    have HE0 := Lib.hid (show Ext wk wk from Below.refl _ _)
    generalize f.name = fnm at *
    generalize f.params = fpa at *
    generalize f.regs = rg at *
    generalize f.prio = fpr at *
    generalize f.cl = fcl at *
    go_enter Tryz.func126, Tryz.ntmps126
    go_wp2_with fail
    rw [← hwk]
    clear hwk
    refine (K.out _).mono ?_
    rintro _ v1 ⟨rfl, hv1⟩
    rw [hv1]
    clear hv1 v1
    obtain ⟨d0_0, d0_1, d0_2, d1_0, d1_1, d1_2, d1_3, d1_4, d1_5⟩ := BX.out _ HE0.out
    go_wp2
    go_ret
    exact ⟨by rw [HR.out]; rfl, Ext.trans HW.out HE0.out⟩
  | true =>
    obtain ⟨m, rfl, hm⟩ := inB_nat hb
    obtain ⟨b', o', a', c', e', hcs, -⟩ := h.pg.fs m hm
    dsimp only at e'
    subst e'
    have HR0 := Lib.hid (show ckOpd p f ⟨9, kd⟩ m = (if (p.fs[m]).cl = true then 0 else 16) by simp [ckOpd, hb, hm, kindAt])
    generalize ckOpd p f ⟨9, kd⟩ m = res at *
    have K := fun W => between_any m 0 ((p.fs.length : Int) - 1) W
    simp only [hb] at K
    have K := Lib.hid K
    have x0 := hcs.c4
    clear h hb hcs
    generalize (p.fs[m]).cl = tv at *
    by_cases hq : tv = true
    · have h1 := hq
      subst h1
      have HR := Lib.hid (show res = 0 by rw [HR0.out]; simp [hq])
      clear HR0
      obtain ⟨wk, hwk⟩ : ∃ W, W = ((w.alloc (.cells #[.slice (some ⟨b', o', none⟩) p.fs.length fc, .slice oa p.os.length oc, .slice va p.vs.length vc] 26)).alloc (.cells #[sV f.name, .int .i64 f.params, .int .i64 f.regs, .int .i64 f.prio, .bool f.cl, .slice ca f.code.length cc] 47)) := ⟨_, rfl⟩
      have BX := Lib.hid (show ∀ W, Ext wk W → (W.cell? ⟨w.heap.size, 0, none⟩ = some (.slice (some ⟨b', o', none⟩) p.fs.length fc) ∧ W.cell? ⟨w.heap.size, 1, none⟩ = some (.slice oa p.os.length oc) ∧ W.cell? ⟨w.heap.size, 2, none⟩ = some (.slice va p.vs.length vc) ∧ W.cell? ⟨w.heap.size + 1, 0, none⟩ = some (sV f.name) ∧ W.cell? ⟨w.heap.size + 1, 1, none⟩ = some (.int .i64 f.params) ∧ W.cell? ⟨w.heap.size + 1, 2, none⟩ = some (.int .i64 f.regs) ∧ W.cell? ⟨w.heap.size + 1, 3, none⟩ = some (.int .i64 f.prio) ∧ W.cell? ⟨w.heap.size + 1, 4, none⟩ = some (.bool f.cl) ∧ W.cell? ⟨w.heap.size + 1, 5, none⟩ = some (.slice ca f.code.length cc)) from fun W hW => by
        subst hwk
        have h0 := alloc_here w (.cells #[.slice (some ⟨b', o', none⟩) p.fs.length fc, .slice oa p.os.length oc, .slice va p.vs.length vc] 26)
        have h0 := (Below.heap_alloc _ (.cells #[sV f.name, .int .i64 f.params, .int .i64 f.regs, .int .i64 f.prio, .bool f.cl, .slice ca f.code.length cc] 47) _ (lt_of_block h0)).trans h0
        have k0 := (hW.below.block _ (lt_of_block h0)).trans h0
        have h1 := alloc_here (w.alloc (.cells #[.slice (some ⟨b', o', none⟩) p.fs.length fc, .slice oa p.os.length oc, .slice va p.vs.length vc] 26)) (.cells #[sV f.name, .int .i64 f.params, .int .i64 f.regs, .int .i64 f.prio, .bool f.cl, .slice ca f.code.length cc] 47)
        simp only [World.size_alloc] at h1
        have k1 := (hW.below.block _ (lt_of_block h1)).trans h1
        exact ⟨cell_of k0 rfl, cell_of k0 rfl, cell_of k0 rfl, cell_of k1 rfl, cell_of k1 rfl, cell_of k1 rfl, cell_of k1 rfl, cell_of k1 rfl, cell_of k1 rfl⟩)
      have HWZ := Lib.hid (show wk.heap.size = w.heap.size + 2 by rw [hwk]; simp)
      have HW := Lib.hid (show Ext w wk by rw [hwk]; exact (ext_alloc (ext_alloc (Below.refl _ _) _) _))
      have HE0 := Lib.hid (show Ext wk wk from Below.refl _ _)
      generalize f.name = fnm at *
      generalize f.params = fpa at *
      generalize f.regs = rg at *
      generalize f.prio = fpr at *
      generalize f.cl = fcl at *
      have x1 := cell_ext x0 HW.out
      clear x0
      go_enter Tryz.func126, Tryz.ntmps126
      go_wp2_with fail
      rw [← hwk]
      clear hwk
      refine (K.out _).mono ?_
      rintro _ v1 ⟨rfl, hv1⟩
      rw [hv1]
      clear hv1 v1
      obtain ⟨d0_0, d0_1, d0_2, d1_0, d1_1, d1_2, d1_3, d1_4, d1_5⟩ := BX.out _ HE0.out
      go_wp2
      go_ret
      exact ⟨by rw [HR.out]; rfl, Ext.trans HW.out HE0.out⟩
    · have h1 : tv = false := by simpa using hq
      subst h1
      have HR := Lib.hid (show res = 16 by rw [HR0.out]; simp [hq])
      clear HR0
      obtain ⟨wk, hwk⟩ : ∃ W, W = ((w.alloc (.cells #[.slice (some ⟨b', o', none⟩) p.fs.length fc, .slice oa p.os.length oc, .slice va p.vs.length vc] 26)).alloc (.cells #[sV f.name, .int .i64 f.params, .int .i64 f.regs, .int .i64 f.prio, .bool f.cl, .slice ca f.code.length cc] 47)) := ⟨_, rfl⟩
      have BX := Lib.hid (show ∀ W, Ext wk W → (W.cell? ⟨w.heap.size, 0, none⟩ = some (.slice (some ⟨b', o', none⟩) p.fs.length fc) ∧ W.cell? ⟨w.heap.size, 1, none⟩ = some (.slice oa p.os.length oc) ∧ W.cell? ⟨w.heap.size, 2, none⟩ = some (.slice va p.vs.length vc) ∧ W.cell? ⟨w.heap.size + 1, 0, none⟩ = some (sV f.name) ∧ W.cell? ⟨w.heap.size + 1, 1, none⟩ = some (.int .i64 f.params) ∧ W.cell? ⟨w.heap.size + 1, 2, none⟩ = some (.int .i64 f.regs) ∧ W.cell? ⟨w.heap.size + 1, 3, none⟩ = some (.int .i64 f.prio) ∧ W.cell? ⟨w.heap.size + 1, 4, none⟩ = some (.bool f.cl) ∧ W.cell? ⟨w.heap.size + 1, 5, none⟩ = some (.slice ca f.code.length cc)) from fun W hW => by
        subst hwk
        have h0 := alloc_here w (.cells #[.slice (some ⟨b', o', none⟩) p.fs.length fc, .slice oa p.os.length oc, .slice va p.vs.length vc] 26)
        have h0 := (Below.heap_alloc _ (.cells #[sV f.name, .int .i64 f.params, .int .i64 f.regs, .int .i64 f.prio, .bool f.cl, .slice ca f.code.length cc] 47) _ (lt_of_block h0)).trans h0
        have k0 := (hW.below.block _ (lt_of_block h0)).trans h0
        have h1 := alloc_here (w.alloc (.cells #[.slice (some ⟨b', o', none⟩) p.fs.length fc, .slice oa p.os.length oc, .slice va p.vs.length vc] 26)) (.cells #[sV f.name, .int .i64 f.params, .int .i64 f.regs, .int .i64 f.prio, .bool f.cl, .slice ca f.code.length cc] 47)
        simp only [World.size_alloc] at h1
        have k1 := (hW.below.block _ (lt_of_block h1)).trans h1
        exact ⟨cell_of k0 rfl, cell_of k0 rfl, cell_of k0 rfl, cell_of k1 rfl, cell_of k1 rfl, cell_of k1 rfl, cell_of k1 rfl, cell_of k1 rfl, cell_of k1 rfl⟩)
      have HWZ := Lib.hid (show wk.heap.size = w.heap.size + 2 by rw [hwk]; simp)
      have HW := Lib.hid (show Ext w wk by rw [hwk]; exact (ext_alloc (ext_alloc (Below.refl _ _) _) _))
      have HE0 := Lib.hid (show Ext wk wk from Below.refl _ _)
      generalize f.name = fnm at *
      generalize f.params = fpa at *
      generalize f.regs = rg at *
      generalize f.prio = fpr at *
      generalize f.cl = fcl at *
      have x1 := cell_ext x0 HW.out
      clear x0
      go_enter Tryz.func126, Tryz.ntmps126
      go_wp2_with fail
      rw [← hwk]
      clear hwk
      refine (K.out _).mono ?_
      rintro _ v1 ⟨rfl, hv1⟩
      rw [hv1]
      clear hv1 v1
      obtain ⟨d0_0, d0_1, d0_2, d1_0, d1_1, d1_2, d1_3, d1_4, d1_5⟩ := BX.out _ HE0.out
      go_wp2
      go_ret
      exact ⟨by rw [HR.out]; rfl, Ext.trans HW.out HE0.out⟩

set_option maxRecDepth 100000 in
set_option maxHeartbeats 2000000 in
theorem rop_10 (p : Pg) (A : PA) (f : Fn) (ca : Option Addr) (cc : Nat) (kd n : Int) (w : World) (h : CkAt w p A f ca) (hn : i64 n) :
    Gives Tryz.prog 126 #[PV p A, FV f ca cc, .int .u8 118, .int .i64 n] w (.int .i64 (ckOpd p f ⟨10, kd⟩ n)) := by
  unfold Gives
  obtain ⟨fa, fc, oa, oc, va, vc⟩ := A
  dsimp only [PV, FV]
  obtain ⟨hn1, hn2⟩ := hn
  obtain ⟨hr1, hr2⟩ := h.regs
  have hlc := h.fwf.len
  have hlf := h.pg.wf.nf
  have hlo := h.pg.wf.no
  have hlv := h.pg.wf.nv
  cases hb : inB n 0 ((p.vs.length : Int) - 1) with
  | true =>
    have HR := Lib.hid (show ckOpd p f ⟨10, kd⟩ n = 0 by simp [ckOpd, hb])

    generalize ckOpd p f ⟨10, kd⟩ n = res at *
    have K := fun W => between_any n 0 ((p.vs.length : Int) - 1) W
    simp only [hb] at K
    have K := Lib.hid K
    clear h hb
    obtain ⟨wk, hwk⟩ : ∃ W, W = ((w.alloc (.cells #[.slice fa p.fs.length fc, .slice oa p.os.length oc, .slice va p.vs.length vc] 26)).alloc (.cells #[sV f.name, .int .i64 f.params, .int .i64 f.regs, .int .i64 f.prio, .bool f.cl, .slice ca f.code.length cc] 47)) := ⟨_, rfl⟩
    have BX := Lib.hid (show ∀ W, Ext wk W → (W.cell? ⟨w.heap.size, 0, none⟩ = some (.slice fa p.fs.length fc) ∧ W.cell? ⟨w.heap.size, 1, none⟩ = some (.slice oa p.os.length oc) ∧ W.cell? ⟨w.heap.size, 2, none⟩ = some (.slice va p.vs.length vc) ∧ W.cell? ⟨w.heap.size + 1, 0, none⟩ = some (sV f.name) ∧ W.cell? ⟨w.heap.size + 1, 1, none⟩ = some (.int .i64 f.params) ∧ W.cell? ⟨w.heap.size + 1, 2, none⟩ = some (.int .i64 f.regs) ∧ W.cell? ⟨w.heap.size + 1, 3, none⟩ = some (.int .i64 f.prio) ∧ W.cell? ⟨w.heap.size + 1, 4, none⟩ = some (.bool f.cl) ∧ W.cell? ⟨w.heap.size + 1, 5, none⟩ = some (.slice ca f.code.length cc)) from fun W hW => by
      subst hwk
      have h0 := alloc_here w (.cells #[.slice fa p.fs.length fc, .slice oa p.os.length oc, .slice va p.vs.length vc] 26)
      have h0 := (Below.heap_alloc _ (.cells #[sV f.name, .int .i64 f.params, .int .i64 f.regs, .int .i64 f.prio, .bool f.cl, .slice ca f.code.length cc] 47) _ (lt_of_block h0)).trans h0
      have k0 := (hW.below.block _ (lt_of_block h0)).trans h0
      have h1 := alloc_here (w.alloc (.cells #[.slice fa p.fs.length fc, .slice oa p.os.length oc, .slice va p.vs.length vc] 26)) (.cells #[sV f.name, .int .i64 f.params, .int .i64 f.regs, .int .i64 f.prio, .bool f.cl, .slice ca f.code.length cc] 47)
      simp only [World.size_alloc] at h1
      have k1 := (hW.below.block _ (lt_of_block h1)).trans h1
      exact ⟨cell_of k0 rfl, cell_of k0 rfl, cell_of k0 rfl, cell_of k1 rfl, cell_of k1 rfl, cell_of k1 rfl, cell_of k1 rfl, cell_of k1 rfl, cell_of k1 rfl⟩)
    have HWZ := Lib.hid (show wk.heap.size = w.heap.size + 2 by rw [hwk]; simp)
    have HW := Lib.hid (show Ext w wk by rw [hwk]; exact (ext_alloc (ext_alloc (Below.refl _ _) _) _))
    have HE0 := Lib.hid (show Ext wk wk from Below.refl _ _)
    generalize f.name = fnm at *
    generalize f.params = fpa at *
    generalize f.regs = rg at *
    generalize f.prio = fpr at *
    generalize f.cl = fcl at *
    go_enter Tryz.func126, Tryz.ntmps126
    go_wp2_with fail
    rw [← hwk]
    clear hwk
    refine (K.out _).mono ?_
    rintro _ v1 ⟨rfl, hv1⟩
    rw [hv1]
    clear hv1 v1
    obtain ⟨d0_0, d0_1, d0_2, d1_0, d1_1, d1_2, d1_3, d1_4, d1_5⟩ := BX.out _ HE0.out
    go_wp2
    go_ret
    exact ⟨by rw [HR.out]; rfl, Ext.trans HW.out HE0.out⟩
  | false =>
    have HR := Lib.hid (show ckOpd p f ⟨10, kd⟩ n = 2 by simp [ckOpd, hb])

    generalize ckOpd p f ⟨10, kd⟩ n = res at *
    have K := fun W => between_any n 0 ((p.vs.length : Int) - 1) W
    simp only [hb] at K
    have K := Lib.hid K
    clear h hb
    obtain ⟨wk, hwk⟩ : ∃ W, W = ((w.alloc (.cells #[.slice fa p.fs.length fc, .slice oa p.os.length oc, .slice va p.vs.length vc] 26)).alloc (.cells #[sV f.name, .int .i64 f.params, .int .i64 f.regs, .int .i64 f.prio, .bool f.cl, .slice ca f.code.length cc] 47)) := ⟨_, rfl⟩
    have BX := Lib.hid (show ∀ W, Ext wk W → (W.cell? ⟨w.heap.size, 0, none⟩ = some (.slice fa p.fs.length fc) ∧ W.cell? ⟨w.heap.size, 1, none⟩ = some (.slice oa p.os.length oc) ∧ W.cell? ⟨w.heap.size, 2, none⟩ = some (.slice va p.vs.length vc) ∧ W.cell? ⟨w.heap.size + 1, 0, none⟩ = some (sV f.name) ∧ W.cell? ⟨w.heap.size + 1, 1, none⟩ = some (.int .i64 f.params) ∧ W.cell? ⟨w.heap.size + 1, 2, none⟩ = some (.int .i64 f.regs) ∧ W.cell? ⟨w.heap.size + 1, 3, none⟩ = some (.int .i64 f.prio) ∧ W.cell? ⟨w.heap.size + 1, 4, none⟩ = some (.bool f.cl) ∧ W.cell? ⟨w.heap.size + 1, 5, none⟩ = some (.slice ca f.code.length cc)) from fun W hW => by
      subst hwk
      have h0 := alloc_here w (.cells #[.slice fa p.fs.length fc, .slice oa p.os.length oc, .slice va p.vs.length vc] 26)
      have h0 := (Below.heap_alloc _ (.cells #[sV f.name, .int .i64 f.params, .int .i64 f.regs, .int .i64 f.prio, .bool f.cl, .slice ca f.code.length cc] 47) _ (lt_of_block h0)).trans h0
      have k0 := (hW.below.block _ (lt_of_block h0)).trans h0
      have h1 := alloc_here (w.alloc (.cells #[.slice fa p.fs.length fc, .slice oa p.os.length oc, .slice va p.vs.length vc] 26)) (.cells #[sV f.name, .int .i64 f.params, .int .i64 f.regs, .int .i64 f.prio, .bool f.cl, .slice ca f.code.length cc] 47)
      simp only [World.size_alloc] at h1
      have k1 := (hW.below.block _ (lt_of_block h1)).trans h1
      exact ⟨cell_of k0 rfl, cell_of k0 rfl, cell_of k0 rfl, cell_of k1 rfl, cell_of k1 rfl, cell_of k1 rfl, cell_of k1 rfl, cell_of k1 rfl, cell_of k1 rfl⟩)
    have HWZ := Lib.hid (show wk.heap.size = w.heap.size + 2 by rw [hwk]; simp)
    have HW := Lib.hid (show Ext w wk by rw [hwk]; exact (ext_alloc (ext_alloc (Below.refl _ _) _) _))
    have HE0 := Lib.hid (show Ext wk wk from Below.refl _ _)
    generalize f.name = fnm at *
    generalize f.params = fpa at *
    generalize f.regs = rg at *
    generalize f.prio = fpr at *
    generalize f.cl = fcl at *
    go_enter Tryz.func126, Tryz.ntmps126
    go_wp2_with fail
    rw [← hwk]
    clear hwk
    refine (K.out _).mono ?_
    rintro _ v1 ⟨rfl, hv1⟩
    rw [hv1]
    clear hv1 v1
    obtain ⟨d0_0, d0_1, d0_2, d1_0, d1_1, d1_2, d1_3, d1_4, d1_5⟩ := BX.out _ HE0.out
    go_wp2
    go_ret
    exact ⟨by rw [HR.out]; rfl, Ext.trans HW.out HE0.out⟩

set_option maxRecDepth 100000 in
set_option maxHeartbeats 2000000 in
theorem rop_11 (p : Pg) (A : PA) (f : Fn) (ca : Option Addr) (cc : Nat) (kd n : Int) (w : World) (h : CkAt w p A f ca) (hn : i64 n) :
    Gives Tryz.prog 126 #[PV p A, FV f ca cc, .int .u8 97, .int .i64 n] w (.int .i64 (ckOpd p f ⟨11, kd⟩ n)) := by
  unfold Gives
  obtain ⟨fa, fc, oa, oc, va, vc⟩ := A
  dsimp only [PV, FV]
  obtain ⟨hn1, hn2⟩ := hn
  obtain ⟨hr1, hr2⟩ := h.regs
  have hlc := h.fwf.len
  have hlf := h.pg.wf.nf
  have hlo := h.pg.wf.no
  have hlv := h.pg.wf.nv
  cases hb : inB n 0 ((p.vs.length : Int) - 1) with
  | false =>
    have HR := Lib.hid (show ckOpd p f ⟨11, kd⟩ n = 2 by simp [ckOpd, hb])
    generalize ckOpd p f ⟨11, kd⟩ n = res at *
    have K := fun W => between_any n 0 ((p.vs.length : Int) - 1) W
    simp only [hb] at K
    have K := Lib.hid K
    clear h hb
    obtain ⟨wk, hwk⟩ : ∃ W, W = ((w.alloc (.cells #[.slice fa p.fs.length fc, .slice oa p.os.length oc, .slice va p.vs.length vc] 26)).alloc (.cells #[sV f.name, .int .i64 f.params, .int .i64 f.regs, .int .i64 f.prio, .bool f.cl, .slice ca f.code.length cc] 47)) := ⟨_, rfl⟩
    have BX := Lib.hid (show ∀ W, Ext wk W → (W.cell? ⟨w.heap.size, 0, none⟩ = some (.slice fa p.fs.length fc) ∧ W.cell? ⟨w.heap.size, 1, none⟩ = some (.slice oa p.os.length oc) ∧ W.cell? ⟨w.heap.size, 2, none⟩ = some (.slice va p.vs.length vc) ∧ W.cell? ⟨w.heap.size + 1, 0, none⟩ = some (sV f.name) ∧ W.cell? ⟨w.heap.size + 1, 1, none⟩ = some (.int .i64 f.params) ∧ W.cell? ⟨w.heap.size + 1, 2, none⟩ = some (.int .i64 f.regs) ∧ W.cell? ⟨w.heap.size + 1, 3, none⟩ = some (.int .i64 f.prio) ∧ W.cell? ⟨w.heap.size + 1, 4, none⟩ = some (.bool f.cl) ∧ W.cell? ⟨w.heap.size + 1, 5, none⟩ = some (.slice ca f.code.length cc)) from fun W hW => by
      subst hwk
      have h0 := alloc_here w (.cells #[.slice fa p.fs.length fc, .slice oa p.os.length oc, .slice va p.vs.length vc] 26)
      have h0 := (Below.heap_alloc _ (.cells #[sV f.name, .int .i64 f.params, .int .i64 f.regs, .int .i64 f.prio, .bool f.cl, .slice ca f.code.length cc] 47) _ (lt_of_block h0)).trans h0
      have k0 := (hW.below.block _ (lt_of_block h0)).trans h0
      have h1 := alloc_here (w.alloc (.cells #[.slice fa p.fs.length fc, .slice oa p.os.length oc, .slice va p.vs.length vc] 26)) (.cells #[sV f.name, .int .i64 f.params, .int .i64 f.regs, .int .i64 f.prio, .bool f.cl, .slice ca f.code.length cc] 47)
      simp only [World.size_alloc] at h1
      have k1 := (hW.below.block _ (lt_of_block h1)).trans h1
      exact ⟨cell_of k0 rfl, cell_of k0 rfl, cell_of k0 rfl, cell_of k1 rfl, cell_of k1 rfl, cell_of k1 rfl, cell_of k1 rfl, cell_of k1 rfl, cell_of k1 rfl⟩)
    have HWZ := Lib.hid (show wk.heap.size = w.heap.size + 2 by rw [hwk]; simp)
    have HW := Lib.hid (show Ext w wk by rw [hwk]; exact (ext_alloc (ext_alloc (Below.refl _ _) _) _))
    have HE0 := Lib.hid (show Ext wk wk from Below.refl _ _)
    generalize f.name = fnm at *
    generalize f.params = fpa at *
    generalize f.regs = rg at *
    generalize f.prio = fpr at *
    generalize f.cl = fcl at *
    go_enter Tryz.func126, Tryz.ntmps126
    go_wp2_with fail
    rw [← hwk]
    clear hwk
    refine (K.out _).mono ?_
    rintro _ v1 ⟨rfl, hv1⟩
    rw [hv1]
    clear hv1 v1
    obtain ⟨d0_0, d0_1, d0_2, d1_0, d1_1, d1_2, d1_3, d1_4, d1_5⟩ := BX.out _ HE0.out
    go_wp2
    go_ret
    exact ⟨by rw [HR.out]; rfl, Ext.trans HW.out HE0.out⟩
  | true =>
    obtain ⟨m, rfl, hm⟩ := inB_nat hb
    obtain ⟨b', o', e', hcs⟩ := h.pg.vs m hm
    dsimp only at e'
    subst e'
    have HR0 := Lib.hid (show ckOpd p f ⟨11, kd⟩ m = (if (p.vs[m]).atomic = true then 0 else 16) by simp [ckOpd, hb, hm, kindAt])
    generalize ckOpd p f ⟨11, kd⟩ m = res at *
    have K := fun W => between_any m 0 ((p.vs.length : Int) - 1) W
    simp only [hb] at K
    have K := Lib.hid K
    have x0 := hcs.c2
    clear h hb hcs
    generalize (p.vs[m]).atomic = tv at *
    by_cases hq : tv = true
    · have h1 := hq
      subst h1
      have HR := Lib.hid (show res = 0 by rw [HR0.out]; simp [hq])
      clear HR0
      obtain ⟨wk, hwk⟩ : ∃ W, W = ((w.alloc (.cells #[.slice fa p.fs.length fc, .slice oa p.os.length oc, .slice (some ⟨b', o', none⟩) p.vs.length vc] 26)).alloc (.cells #[sV f.name, .int .i64 f.params, .int .i64 f.regs, .int .i64 f.prio, .bool f.cl, .slice ca f.code.length cc] 47)) := ⟨_, rfl⟩
      have BX := Lib.hid (show ∀ W, Ext wk W → (W.cell? ⟨w.heap.size, 0, none⟩ = some (.slice fa p.fs.length fc) ∧ W.cell? ⟨w.heap.size, 1, none⟩ = some (.slice oa p.os.length oc) ∧ W.cell? ⟨w.heap.size, 2, none⟩ = some (.slice (some ⟨b', o', none⟩) p.vs.length vc) ∧ W.cell? ⟨w.heap.size + 1, 0, none⟩ = some (sV f.name) ∧ W.cell? ⟨w.heap.size + 1, 1, none⟩ = some (.int .i64 f.params) ∧ W.cell? ⟨w.heap.size + 1, 2, none⟩ = some (.int .i64 f.regs) ∧ W.cell? ⟨w.heap.size + 1, 3, none⟩ = some (.int .i64 f.prio) ∧ W.cell? ⟨w.heap.size + 1, 4, none⟩ = some (.bool f.cl) ∧ W.cell? ⟨w.heap.size + 1, 5, none⟩ = some (.slice ca f.code.length cc)) from fun W hW => by
        subst hwk
        have h0 := alloc_here w (.cells #[.slice fa p.fs.length fc, .slice oa p.os.length oc, .slice (some ⟨b', o', none⟩) p.vs.length vc] 26)
        have h0 := (Below.heap_alloc _ (.cells #[sV f.name, .int .i64 f.params, .int .i64 f.regs, .int .i64 f.prio, .bool f.cl, .slice ca f.code.length cc] 47) _ (lt_of_block h0)).trans h0
        have k0 := (hW.below.block _ (lt_of_block h0)).trans h0
        have h1 := alloc_here (w.alloc (.cells #[.slice fa p.fs.length fc, .slice oa p.os.length oc, .slice (some ⟨b', o', none⟩) p.vs.length vc] 26)) (.cells #[sV f.name, .int .i64 f.params, .int .i64 f.regs, .int .i64 f.prio, .bool f.cl, .slice ca f.code.length cc] 47)
        simp only [World.size_alloc] at h1
        have k1 := (hW.below.block _ (lt_of_block h1)).trans h1
        exact ⟨cell_of k0 rfl, cell_of k0 rfl, cell_of k0 rfl, cell_of k1 rfl, cell_of k1 rfl, cell_of k1 rfl, cell_of k1 rfl, cell_of k1 rfl, cell_of k1 rfl⟩)
      have HWZ := Lib.hid (show wk.heap.size = w.heap.size + 2 by rw [hwk]; simp)
      have HW := Lib.hid (show Ext w wk by rw [hwk]; exact (ext_alloc (ext_alloc (Below.refl _ _) _) _))
      have HE0 := Lib.hid (show Ext wk wk from Below.refl _ _)
      generalize f.name = fnm at *
      generalize f.params = fpa at *
      generalize f.regs = rg at *
      generalize f.prio = fpr at *
      generalize f.cl = fcl at *
      have x1 := cell_ext x0 HW.out
      clear x0
      go_enter Tryz.func126, Tryz.ntmps126
      go_wp2_with fail
      rw [← hwk]
      clear hwk
      refine (K.out _).mono ?_
      rintro _ v1 ⟨rfl, hv1⟩
      rw [hv1]
      clear hv1 v1
      obtain ⟨d0_0, d0_1, d0_2, d1_0, d1_1, d1_2, d1_3, d1_4, d1_5⟩ := BX.out _ HE0.out
      go_wp2
      go_ret
      exact ⟨by rw [HR.out]; rfl, Ext.trans HW.out HE0.out⟩
    · have h1 : tv = false := by simpa using hq
      subst h1
      have HR := Lib.hid (show res = 16 by rw [HR0.out]; simp [hq])
      clear HR0
      obtain ⟨wk, hwk⟩ : ∃ W, W = ((w.alloc (.cells #[.slice fa p.fs.length fc, .slice oa p.os.length oc, .slice (some ⟨b', o', none⟩) p.vs.length vc] 26)).alloc (.cells #[sV f.name, .int .i64 f.params, .int .i64 f.regs, .int .i64 f.prio, .bool f.cl, .slice ca f.code.length cc] 47)) := ⟨_, rfl⟩
      have BX := Lib.hid (show ∀ W, Ext wk W → (W.cell? ⟨w.heap.size, 0, none⟩ = some (.slice fa p.fs.length fc) ∧ W.cell? ⟨w.heap.size, 1, none⟩ = some (.slice oa p.os.length oc) ∧ W.cell? ⟨w.heap.size, 2, none⟩ = some (.slice (some ⟨b', o', none⟩) p.vs.length vc) ∧ W.cell? ⟨w.heap.size + 1, 0, none⟩ = some (sV f.name) ∧ W.cell? ⟨w.heap.size + 1, 1, none⟩ = some (.int .i64 f.params) ∧ W.cell? ⟨w.heap.size + 1, 2, none⟩ = some (.int .i64 f.regs) ∧ W.cell? ⟨w.heap.size + 1, 3, none⟩ = some (.int .i64 f.prio) ∧ W.cell? ⟨w.heap.size + 1, 4, none⟩ = some (.bool f.cl) ∧ W.cell? ⟨w.heap.size + 1, 5, none⟩ = some (.slice ca f.code.length cc)) from fun W hW => by
        subst hwk
        have h0 := alloc_here w (.cells #[.slice fa p.fs.length fc, .slice oa p.os.length oc, .slice (some ⟨b', o', none⟩) p.vs.length vc] 26)
        have h0 := (Below.heap_alloc _ (.cells #[sV f.name, .int .i64 f.params, .int .i64 f.regs, .int .i64 f.prio, .bool f.cl, .slice ca f.code.length cc] 47) _ (lt_of_block h0)).trans h0
        have k0 := (hW.below.block _ (lt_of_block h0)).trans h0
        have h1 := alloc_here (w.alloc (.cells #[.slice fa p.fs.length fc, .slice oa p.os.length oc, .slice (some ⟨b', o', none⟩) p.vs.length vc] 26)) (.cells #[sV f.name, .int .i64 f.params, .int .i64 f.regs, .int .i64 f.prio, .bool f.cl, .slice ca f.code.length cc] 47)
        simp only [World.size_alloc] at h1
        have k1 := (hW.below.block _ (lt_of_block h1)).trans h1
        exact ⟨cell_of k0 rfl, cell_of k0 rfl, cell_of k0 rfl, cell_of k1 rfl, cell_of k1 rfl, cell_of k1 rfl, cell_of k1 rfl, cell_of k1 rfl, cell_of k1 rfl⟩)
      have HWZ := Lib.hid (show wk.heap.size = w.heap.size + 2 by rw [hwk]; simp)
      have HW := Lib.hid (show Ext w wk by rw [hwk]; exact (ext_alloc (ext_alloc (Below.refl _ _) _) _))
      have HE0 := Lib.hid (show Ext wk wk from Below.refl _ _)
      generalize f.name = fnm at *
      generalize f.params = fpa at *
      generalize f.regs = rg at *
      generalize f.prio = fpr at *
      generalize f.cl = fcl at *
      have x1 := cell_ext x0 HW.out
      clear x0
      go_enter Tryz.func126, Tryz.ntmps126
      go_wp2_with fail
      rw [← hwk]
      clear hwk
      refine (K.out _).mono ?_
      rintro _ v1 ⟨rfl, hv1⟩
      rw [hv1]
      clear hv1 v1
      obtain ⟨d0_0, d0_1, d0_2, d1_0, d1_1, d1_2, d1_3, d1_4, d1_5⟩ := BX.out _ HE0.out
      go_wp2
      go_ret
      exact ⟨by rw [HR.out]; rfl, Ext.trans HW.out HE0.out⟩

set_option maxRecDepth 100000 in
set_option maxHeartbeats 2000000 in
theorem roi_any (p : Pg) (A : PA) (f : Fn) (kd n : Int) (w : World) (h : PgAt w p A) (hn : i64 n) :
    Gives Tryz.prog 147 #[PV p A, .int .i64 n, .int .i64 kd] w (.int .i64 (ckOpd p f ⟨12, kd⟩ n)) := by
  unfold Gives
  obtain ⟨fa, fc, oa, oc, va, vc⟩ := A
  dsimp only [PV]
  obtain ⟨hn1, hn2⟩ := hn
  have hlo := h.wf.no
  cases hb : inB n 0 ((p.os.length : Int) - 1) with
  | false =>
    have HR := Lib.hid (show ckOpd p f ⟨12, kd⟩ n = 2 by simp [ckOpd, hb])
    generalize ckOpd p f ⟨12, kd⟩ n = res at *
    have K := fun W => between_any n 0 ((p.os.length : Int) - 1) W
    simp only [hb] at K
    have K := Lib.hid K
    clear h hb
    obtain ⟨wk, hwk⟩ : ∃ W, W = (w.alloc (.cells #[.slice fa p.fs.length fc, .slice oa p.os.length oc, .slice va p.vs.length vc] 26)) := ⟨_, rfl⟩
    have BX := Lib.hid (show ∀ W, Ext wk W → (W.cell? ⟨w.heap.size, 0, none⟩ = some (.slice fa p.fs.length fc) ∧ W.cell? ⟨w.heap.size, 1, none⟩ = some (.slice oa p.os.length oc) ∧ W.cell? ⟨w.heap.size, 2, none⟩ = some (.slice va p.vs.length vc)) from fun W hW => by
      subst hwk
      have h0 := alloc_here w (.cells #[.slice fa p.fs.length fc, .slice oa p.os.length oc, .slice va p.vs.length vc] 26)
      have k0 := (hW.below.block _ (lt_of_block h0)).trans h0
      exact ⟨cell_of k0 rfl, cell_of k0 rfl, cell_of k0 rfl⟩)
    have HWZ := Lib.hid (show wk.heap.size = w.heap.size + 1 by rw [hwk]; simp)
    have HW := Lib.hid (show Ext w wk by rw [hwk]; exact (ext_alloc (Below.refl _ _) _))
    have HE0 := Lib.hid (show Ext wk wk from Below.refl _ _)
    go_enter Tryz.func147, Tryz.ntmps147
    go_wp2_with fail
    rw [← hwk]
    clear hwk
    refine (K.out _).mono ?_
    rintro _ v1 ⟨rfl, hv1⟩
    rw [hv1]
    clear hv1 v1
    obtain ⟨d0_0, d0_1, d0_2⟩ := BX.out _ HE0.out
    go_wp2
    go_ret
    exact ⟨by rw [HR.out]; rfl, Ext.trans HW.out HE0.out⟩
  | true =>
    obtain ⟨m, rfl, hm⟩ := inB_nat hb
    obtain ⟨b', o', e', hcs⟩ := h.os m hm
    dsimp only at e'
    subst e'
    have HR0 := Lib.hid (show ckOpd p f ⟨12, kd⟩ m = (if (p.os[m]).kind = kd then 0 else 8) by simp [ckOpd, hb, hm, kindAt])
    generalize ckOpd p f ⟨12, kd⟩ m = res at *
    have K := fun W => between_any m 0 ((p.os.length : Int) - 1) W
    simp only [hb] at K
    have K := Lib.hid K
    have x0 := hcs.c1
    clear h hb hcs
    generalize (p.os[m]).kind = tv at *
    by_cases hq : tv = kd
    · have h1 : (tv != kd) = false := by simpa using hq
      have HR := Lib.hid (show res = 0 by rw [HR0.out]; simp [hq])
      clear HR0 hq
      obtain ⟨wk, hwk⟩ : ∃ W, W = (w.alloc (.cells #[.slice fa p.fs.length fc, .slice (some ⟨b', o', none⟩) p.os.length oc, .slice va p.vs.length vc] 26)) := ⟨_, rfl⟩
      have BX := Lib.hid (show ∀ W, Ext wk W → (W.cell? ⟨w.heap.size, 0, none⟩ = some (.slice fa p.fs.length fc) ∧ W.cell? ⟨w.heap.size, 1, none⟩ = some (.slice (some ⟨b', o', none⟩) p.os.length oc) ∧ W.cell? ⟨w.heap.size, 2, none⟩ = some (.slice va p.vs.length vc)) from fun W hW => by
        subst hwk
        have h0 := alloc_here w (.cells #[.slice fa p.fs.length fc, .slice (some ⟨b', o', none⟩) p.os.length oc, .slice va p.vs.length vc] 26)
        have k0 := (hW.below.block _ (lt_of_block h0)).trans h0
        exact ⟨cell_of k0 rfl, cell_of k0 rfl, cell_of k0 rfl⟩)
      have HWZ := Lib.hid (show wk.heap.size = w.heap.size + 1 by rw [hwk]; simp)
      have HW := Lib.hid (show Ext w wk by rw [hwk]; exact (ext_alloc (Below.refl _ _) _))
      have HE0 := Lib.hid (show Ext wk wk from Below.refl _ _)
      have x1 := cell_ext x0 HW.out
      clear x0
      go_enter Tryz.func147, Tryz.ntmps147
      go_wp2_with fail
      rw [← hwk]
      clear hwk
      refine (K.out _).mono ?_
      rintro _ v1 ⟨rfl, hv1⟩
      rw [hv1]
      clear hv1 v1
      obtain ⟨d0_0, d0_1, d0_2⟩ := BX.out _ HE0.out
      go_wp2
      go_ret
      exact ⟨by rw [HR.out]; rfl, Ext.trans HW.out HE0.out⟩
    · have h1 : (tv != kd) = true := by simpa using hq
      have HR := Lib.hid (show res = 8 by rw [HR0.out]; simp [hq])
      clear HR0 hq
      obtain ⟨wk, hwk⟩ : ∃ W, W = (w.alloc (.cells #[.slice fa p.fs.length fc, .slice (some ⟨b', o', none⟩) p.os.length oc, .slice va p.vs.length vc] 26)) := ⟨_, rfl⟩
      have BX := Lib.hid (show ∀ W, Ext wk W → (W.cell? ⟨w.heap.size, 0, none⟩ = some (.slice fa p.fs.length fc) ∧ W.cell? ⟨w.heap.size, 1, none⟩ = some (.slice (some ⟨b', o', none⟩) p.os.length oc) ∧ W.cell? ⟨w.heap.size, 2, none⟩ = some (.slice va p.vs.length vc)) from fun W hW => by
        subst hwk
        have h0 := alloc_here w (.cells #[.slice fa p.fs.length fc, .slice (some ⟨b', o', none⟩) p.os.length oc, .slice va p.vs.length vc] 26)
        have k0 := (hW.below.block _ (lt_of_block h0)).trans h0
        exact ⟨cell_of k0 rfl, cell_of k0 rfl, cell_of k0 rfl⟩)
      have HWZ := Lib.hid (show wk.heap.size = w.heap.size + 1 by rw [hwk]; simp)
      have HW := Lib.hid (show Ext w wk by rw [hwk]; exact (ext_alloc (Below.refl _ _) _))
      have HE0 := Lib.hid (show Ext wk wk from Below.refl _ _)
      have x1 := cell_ext x0 HW.out
      clear x0
      go_enter Tryz.func147, Tryz.ntmps147
      go_wp2_with fail
      rw [← hwk]
      clear hwk
      refine (K.out _).mono ?_
      rintro _ v1 ⟨rfl, hv1⟩
      rw [hv1]
      clear hv1 v1
      obtain ⟨d0_0, d0_1, d0_2⟩ := BX.out _ HE0.out
      go_wp2
      go_ret
      exact ⟨by rw [HR.out]; rfl, Ext.trans HW.out HE0.out⟩

set_option maxRecDepth 100000 in
set_option maxHeartbeats 2000000 in
theorem rop_d1 (p : Pg) (A : PA) (f : Fn) (ca : Option Addr) (cc : Nat) (n : Int) (w : World) (h : CkAt w p A f ca) (hn : i64 n) :
    Gives Tryz.prog 126 #[PV p A, FV f ca cc, .int .u8 49, .int .i64 n] w (.int .i64 (ckOpd p f ⟨12, 1⟩ n)) := by
  unfold Gives
  have K := Lib.hid (fun W (hW : Ext w W) => roi_any p A f 1 n W (h.pg.ext hW) hn)
  obtain ⟨fa, fc, oa, oc, va, vc⟩ := A
  dsimp only [PV, FV] at K ⊢
  generalize ckOpd p f ⟨12, 1⟩ n = res at *
  clear h
  obtain ⟨wk, hwk⟩ : ∃ W, W = ((w.alloc (.cells #[.slice fa p.fs.length fc, .slice oa p.os.length oc, .slice va p.vs.length vc] 26)).alloc (.cells #[sV f.name, .int .i64 f.params, .int .i64 f.regs, .int .i64 f.prio, .bool f.cl, .slice ca f.code.length cc] 47)) := ⟨_, rfl⟩
  have BX := Lib.hid (show ∀ W, Ext wk W → (W.cell? ⟨w.heap.size, 0, none⟩ = some (.slice fa p.fs.length fc) ∧ W.cell? ⟨w.heap.size, 1, none⟩ = some (.slice oa p.os.length oc) ∧ W.cell? ⟨w.heap.size, 2, none⟩ = some (.slice va p.vs.length vc) ∧ W.cell? ⟨w.heap.size + 1, 0, none⟩ = some (sV f.name) ∧ W.cell? ⟨w.heap.size + 1, 1, none⟩ = some (.int .i64 f.params) ∧ W.cell? ⟨w.heap.size + 1, 2, none⟩ = some (.int .i64 f.regs) ∧ W.cell? ⟨w.heap.size + 1, 3, none⟩ = some (.int .i64 f.prio) ∧ W.cell? ⟨w.heap.size + 1, 4, none⟩ = some (.bool f.cl) ∧ W.cell? ⟨w.heap.size + 1, 5, none⟩ = some (.slice ca f.code.length cc)) from fun W hW => by
    subst hwk
    have h0 := alloc_here w (.cells #[.slice fa p.fs.length fc, .slice oa p.os.length oc, .slice va p.vs.length vc] 26)
    have h0 := (Below.heap_alloc _ (.cells #[sV f.name, .int .i64 f.params, .int .i64 f.regs, .int .i64 f.prio, .bool f.cl, .slice ca f.code.length cc] 47) _ (lt_of_block h0)).trans h0
    have k0 := (hW.below.block _ (lt_of_block h0)).trans h0
    have h1 := alloc_here (w.alloc (.cells #[.slice fa p.fs.length fc, .slice oa p.os.length oc, .slice va p.vs.length vc] 26)) (.cells #[sV f.name, .int .i64 f.params, .int .i64 f.regs, .int .i64 f.prio, .bool f.cl, .slice ca f.code.length cc] 47)
    simp only [World.size_alloc] at h1
    have k1 := (hW.below.block _ (lt_of_block h1)).trans h1
    exact ⟨cell_of k0 rfl, cell_of k0 rfl, cell_of k0 rfl, cell_of k1 rfl, cell_of k1 rfl, cell_of k1 rfl, cell_of k1 rfl, cell_of k1 rfl, cell_of k1 rfl⟩)
  have HWZ := Lib.hid (show wk.heap.size = w.heap.size + 2 by rw [hwk]; simp)
  have HW := Lib.hid (show Ext w wk by rw [hwk]; exact (ext_alloc (ext_alloc (Below.refl _ _) _) _))
  have HE0 := Lib.hid (show Ext wk wk from Below.refl _ _)
  generalize f.name = fnm at *
  generalize f.params = fpa at *
  generalize f.regs = rg at *
  generalize f.prio = fpr at *
  generalize f.cl = fcl at *
  go_enter Tryz.func126, Tryz.ntmps126
  go_wp2_with fail
  rw [← hwk]
  clear hwk
  refine (K.out _ (Ext.trans HW.out HE0.out)).mono ?_
  intro w1 hB
  have HE1 := Lib.hid (Ext.trans HE0.out hB)
  clear hB
  obtain ⟨d0_0, d0_1, d0_2, d1_0, d1_1, d1_2, d1_3, d1_4, d1_5⟩ := BX.out _ HE1.out
  go_wp2
  go_ret
  exact ⟨rfl, Ext.trans HW.out HE1.out⟩

set_option maxRecDepth 100000 in
set_option maxHeartbeats 2000000 in
theorem rop_d2 (p : Pg) (A : PA) (f : Fn) (ca : Option Addr) (cc : Nat) (n : Int) (w : World) (h : CkAt w p A f ca) (hn : i64 n) :
    Gives Tryz.prog 126 #[PV p A, FV f ca cc, .int .u8 50, .int .i64 n] w (.int .i64 (ckOpd p f ⟨12, 2⟩ n)) := by
  unfold Gives
  have K := Lib.hid (fun W (hW : Ext w W) => roi_any p A f 2 n W (h.pg.ext hW) hn)
  obtain ⟨fa, fc, oa, oc, va, vc⟩ := A
  dsimp only [PV, FV] at K ⊢
  generalize ckOpd p f ⟨12, 2⟩ n = res at *
  clear h
  obtain ⟨wk, hwk⟩ : ∃ W, W = ((w.alloc (.cells #[.slice fa p.fs.length fc, .slice oa p.os.length oc, .slice va p.vs.length vc] 26)).alloc (.cells #[sV f.name, .int .i64 f.params, .int .i64 f.regs, .int .i64 f.prio, .bool f.cl, .slice ca f.code.length cc] 47)) := ⟨_, rfl⟩
  have BX := Lib.hid (show ∀ W, Ext wk W → (W.cell? ⟨w.heap.size, 0, none⟩ = some (.slice fa p.fs.length fc) ∧ W.cell? ⟨w.heap.size, 1, none⟩ = some (.slice oa p.os.length oc) ∧ W.cell? ⟨w.heap.size, 2, none⟩ = some (.slice va p.vs.length vc) ∧ W.cell? ⟨w.heap.size + 1, 0, none⟩ = some (sV f.name) ∧ W.cell? ⟨w.heap.size + 1, 1, none⟩ = some (.int .i64 f.params) ∧ W.cell? ⟨w.heap.size + 1, 2, none⟩ = some (.int .i64 f.regs) ∧ W.cell? ⟨w.heap.size + 1, 3, none⟩ = some (.int .i64 f.prio) ∧ W.cell? ⟨w.heap.size + 1, 4, none⟩ = some (.bool f.cl) ∧ W.cell? ⟨w.heap.size + 1, 5, none⟩ = some (.slice ca f.code.length cc)) from fun W hW => by
    subst hwk
    have h0 := alloc_here w (.cells #[.slice fa p.fs.length fc, .slice oa p.os.length oc, .slice va p.vs.length vc] 26)
    have h0 := (Below.heap_alloc _ (.cells #[sV f.name, .int .i64 f.params, .int .i64 f.regs, .int .i64 f.prio, .bool f.cl, .slice ca f.code.length cc] 47) _ (lt_of_block h0)).trans h0
    have k0 := (hW.below.block _ (lt_of_block h0)).trans h0
    have h1 := alloc_here (w.alloc (.cells #[.slice fa p.fs.length fc, .slice oa p.os.length oc, .slice va p.vs.length vc] 26)) (.cells #[sV f.name, .int .i64 f.params, .int .i64 f.regs, .int .i64 f.prio, .bool f.cl, .slice ca f.code.length cc] 47)
    simp only [World.size_alloc] at h1
    have k1 := (hW.below.block _ (lt_of_block h1)).trans h1
    exact ⟨cell_of k0 rfl, cell_of k0 rfl, cell_of k0 rfl, cell_of k1 rfl, cell_of k1 rfl, cell_of k1 rfl, cell_of k1 rfl, cell_of k1 rfl, cell_of k1 rfl⟩)
  have HWZ := Lib.hid (show wk.heap.size = w.heap.size + 2 by rw [hwk]; simp)
  have HW := Lib.hid (show Ext w wk by rw [hwk]; exact (ext_alloc (ext_alloc (Below.refl _ _) _) _))
  have HE0 := Lib.hid (show Ext wk wk from Below.refl _ _)
  generalize f.name = fnm at *
  generalize f.params = fpa at *
  generalize f.regs = rg at *
  generalize f.prio = fpr at *
  generalize f.cl = fcl at *
  go_enter Tryz.func126, Tryz.ntmps126
  go_wp2_with fail
  rw [← hwk]
  clear hwk
  refine (K.out _ (Ext.trans HW.out HE0.out)).mono ?_
  intro w1 hB
  have HE1 := Lib.hid (Ext.trans HE0.out hB)
  clear hB
  obtain ⟨d0_0, d0_1, d0_2, d1_0, d1_1, d1_2, d1_3, d1_4, d1_5⟩ := BX.out _ HE1.out
  go_wp2
  go_ret
  exact ⟨rfl, Ext.trans HW.out HE1.out⟩

set_option maxRecDepth 100000 in
set_option maxHeartbeats 2000000 in
theorem rop_d3 (p : Pg) (A : PA) (f : Fn) (ca : Option Addr) (cc : Nat) (n : Int) (w : World) (h : CkAt w p A f ca) (hn : i64 n) :
    Gives Tryz.prog 126 #[PV p A, FV f ca cc, .int .u8 51, .int .i64 n] w (.int .i64 (ckOpd p f ⟨12, 3⟩ n)) := by
  unfold Gives
  have K := Lib.hid (fun W (hW : Ext w W) => roi_any p A f 3 n W (h.pg.ext hW) hn)
  obtain ⟨fa, fc, oa, oc, va, vc⟩ := A
  dsimp only [PV, FV] at K ⊢
  generalize ckOpd p f ⟨12, 3⟩ n = res at *
  clear h
  obtain ⟨wk, hwk⟩ : ∃ W, W = ((w.alloc (.cells #[.slice fa p.fs.length fc, .slice oa p.os.length oc, .slice va p.vs.length vc] 26)).alloc (.cells #[sV f.name, .int .i64 f.params, .int .i64 f.regs, .int .i64 f.prio, .bool f.cl, .slice ca f.code.length cc] 47)) := ⟨_, rfl⟩
  have BX := Lib.hid (show ∀ W, Ext wk W → (W.cell? ⟨w.heap.size, 0, none⟩ = some (.slice fa p.fs.length fc) ∧ W.cell? ⟨w.heap.size, 1, none⟩ = some (.slice oa p.os.length oc) ∧ W.cell? ⟨w.heap.size, 2, none⟩ = some (.slice va p.vs.length vc) ∧ W.cell? ⟨w.heap.size + 1, 0, none⟩ = some (sV f.name) ∧ W.cell? ⟨w.heap.size + 1, 1, none⟩ = some (.int .i64 f.params) ∧ W.cell? ⟨w.heap.size + 1, 2, none⟩ = some (.int .i64 f.regs) ∧ W.cell? ⟨w.heap.size + 1, 3, none⟩ = some (.int .i64 f.prio) ∧ W.cell? ⟨w.heap.size + 1, 4, none⟩ = some (.bool f.cl) ∧ W.cell? ⟨w.heap.size + 1, 5, none⟩ = some (.slice ca f.code.length cc)) from fun W hW => by
    subst hwk
    have h0 := alloc_here w (.cells #[.slice fa p.fs.length fc, .slice oa p.os.length oc, .slice va p.vs.length vc] 26)
    have h0 := (Below.heap_alloc _ (.cells #[sV f.name, .int .i64 f.params, .int .i64 f.regs, .int .i64 f.prio, .bool f.cl, .slice ca f.code.length cc] 47) _ (lt_of_block h0)).trans h0
    have k0 := (hW.below.block _ (lt_of_block h0)).trans h0
    have h1 := alloc_here (w.alloc (.cells #[.slice fa p.fs.length fc, .slice oa p.os.length oc, .slice va p.vs.length vc] 26)) (.cells #[sV f.name, .int .i64 f.params, .int .i64 f.regs, .int .i64 f.prio, .bool f.cl, .slice ca f.code.length cc] 47)
    simp only [World.size_alloc] at h1
    have k1 := (hW.below.block _ (lt_of_block h1)).trans h1
    exact ⟨cell_of k0 rfl, cell_of k0 rfl, cell_of k0 rfl, cell_of k1 rfl, cell_of k1 rfl, cell_of k1 rfl, cell_of k1 rfl, cell_of k1 rfl, cell_of k1 rfl⟩)
  have HWZ := Lib.hid (show wk.heap.size = w.heap.size + 2 by rw [hwk]; simp)
  have HW := Lib.hid (show Ext w wk by rw [hwk]; exact (ext_alloc (ext_alloc (Below.refl _ _) _) _))
  have HE0 := Lib.hid (show Ext wk wk from Below.refl _ _)
  generalize f.name = fnm at *
  generalize f.params = fpa at *
  generalize f.regs = rg at *
  generalize f.prio = fpr at *
  generalize f.cl = fcl at *
  go_enter Tryz.func126, Tryz.ntmps126
  go_wp2_with fail
  rw [← hwk]
  clear hwk
  refine (K.out _ (Ext.trans HW.out HE0.out)).mono ?_
  intro w1 hB
  have HE1 := Lib.hid (Ext.trans HE0.out hB)
  clear hB
  obtain ⟨d0_0, d0_1, d0_2, d1_0, d1_1, d1_2, d1_3, d1_4, d1_5⟩ := BX.out _ HE1.out
  go_wp2
  go_ret
  exact ⟨rfl, Ext.trans HW.out HE1.out⟩

set_option maxRecDepth 100000 in
set_option maxHeartbeats 2000000 in
theorem rop_d4 (p : Pg) (A : PA) (f : Fn) (ca : Option Addr) (cc : Nat) (n : Int) (w : World) (h : CkAt w p A f ca) (hn : i64 n) :
    Gives Tryz.prog 126 #[PV p A, FV f ca cc, .int .u8 52, .int .i64 n] w (.int .i64 (ckOpd p f ⟨12, 4⟩ n)) := by
  unfold Gives
  have K := Lib.hid (fun W (hW : Ext w W) => roi_any p A f 4 n W (h.pg.ext hW) hn)
  obtain ⟨fa, fc, oa, oc, va, vc⟩ := A
  dsimp only [PV, FV] at K ⊢
  generalize ckOpd p f ⟨12, 4⟩ n = res at *
  clear h
  obtain ⟨wk, hwk⟩ : ∃ W, W = ((w.alloc (.cells #[.slice fa p.fs.length fc, .slice oa p.os.length oc, .slice va p.vs.length vc] 26)).alloc (.cells #[sV f.name, .int .i64 f.params, .int .i64 f.regs, .int .i64 f.prio, .bool f.cl, .slice ca f.code.length cc] 47)) := ⟨_, rfl⟩
  have BX := Lib.hid (show ∀ W, Ext wk W → (W.cell? ⟨w.heap.size, 0, none⟩ = some (.slice fa p.fs.length fc) ∧ W.cell? ⟨w.heap.size, 1, none⟩ = some (.slice oa p.os.length oc) ∧ W.cell? ⟨w.heap.size, 2, none⟩ = some (.slice va p.vs.length vc) ∧ W.cell? ⟨w.heap.size + 1, 0, none⟩ = some (sV f.name) ∧ W.cell? ⟨w.heap.size + 1, 1, none⟩ = some (.int .i64 f.params) ∧ W.cell? ⟨w.heap.size + 1, 2, none⟩ = some (.int .i64 f.regs) ∧ W.cell? ⟨w.heap.size + 1, 3, none⟩ = some (.int .i64 f.prio) ∧ W.cell? ⟨w.heap.size + 1, 4, none⟩ = some (.bool f.cl) ∧ W.cell? ⟨w.heap.size + 1, 5, none⟩ = some (.slice ca f.code.length cc)) from fun W hW => by
    subst hwk
    have h0 := alloc_here w (.cells #[.slice fa p.fs.length fc, .slice oa p.os.length oc, .slice va p.vs.length vc] 26)
    have h0 := (Below.heap_alloc _ (.cells #[sV f.name, .int .i64 f.params, .int .i64 f.regs, .int .i64 f.prio, .bool f.cl, .slice ca f.code.length cc] 47) _ (lt_of_block h0)).trans h0
    have k0 := (hW.below.block _ (lt_of_block h0)).trans h0
    have h1 := alloc_here (w.alloc (.cells #[.slice fa p.fs.length fc, .slice oa p.os.length oc, .slice va p.vs.length vc] 26)) (.cells #[sV f.name, .int .i64 f.params, .int .i64 f.regs, .int .i64 f.prio, .bool f.cl, .slice ca f.code.length cc] 47)
    simp only [World.size_alloc] at h1
    have k1 := (hW.below.block _ (lt_of_block h1)).trans h1
    exact ⟨cell_of k0 rfl, cell_of k0 rfl, cell_of k0 rfl, cell_of k1 rfl, cell_of k1 rfl, cell_of k1 rfl, cell_of k1 rfl, cell_of k1 rfl, cell_of k1 rfl⟩)
  have HWZ := Lib.hid (show wk.heap.size = w.heap.size + 2 by rw [hwk]; simp)
  have HW := Lib.hid (show Ext w wk by rw [hwk]; exact (ext_alloc (ext_alloc (Below.refl _ _) _) _))
  have HE0 := Lib.hid (show Ext wk wk from Below.refl _ _)
  generalize f.name = fnm at *
  generalize f.params = fpa at *
  generalize f.regs = rg at *
  generalize f.prio = fpr at *
  generalize f.cl = fcl at *
  go_enter Tryz.func126, Tryz.ntmps126
  go_wp2_with fail
  rw [← hwk]
  clear hwk
  refine (K.out _ (Ext.trans HW.out HE0.out)).mono ?_
  intro w1 hB
  have HE1 := Lib.hid (Ext.trans HE0.out hB)
  clear hB
  obtain ⟨d0_0, d0_1, d0_2, d1_0, d1_1, d1_2, d1_3, d1_4, d1_5⟩ := BX.out _ HE1.out
  go_wp2
  go_ret
  exact ⟨rfl, Ext.trans HW.out HE1.out⟩

set_option maxRecDepth 100000 in
set_option maxHeartbeats 2000000 in
theorem rop_d5 (p : Pg) (A : PA) (f : Fn) (ca : Option Addr) (cc : Nat) (n : Int) (w : World) (h : CkAt w p A f ca) (hn : i64 n) :
    Gives Tryz.prog 126 #[PV p A, FV f ca cc, .int .u8 53, .int .i64 n] w (.int .i64 (ckOpd p f ⟨12, 5⟩ n)) := by
  unfold Gives
  have K := Lib.hid (fun W (hW : Ext w W) => roi_any p A f 5 n W (h.pg.ext hW) hn)
  obtain ⟨fa, fc, oa, oc, va, vc⟩ := A
  dsimp only [PV, FV] at K ⊢
  generalize ckOpd p f ⟨12, 5⟩ n = res at *
  clear h
  obtain ⟨wk, hwk⟩ : ∃ W, W = ((w.alloc (.cells #[.slice fa p.fs.length fc, .slice oa p.os.length oc, .slice va p.vs.length vc] 26)).alloc (.cells #[sV f.name, .int .i64 f.params, .int .i64 f.regs, .int .i64 f.prio, .bool f.cl, .slice ca f.code.length cc] 47)) := ⟨_, rfl⟩
  have BX := Lib.hid (show ∀ W, Ext wk W → (W.cell? ⟨w.heap.size, 0, none⟩ = some (.slice fa p.fs.length fc) ∧ W.cell? ⟨w.heap.size, 1, none⟩ = some (.slice oa p.os.length oc) ∧ W.cell? ⟨w.heap.size, 2, none⟩ = some (.slice va p.vs.length vc) ∧ W.cell? ⟨w.heap.size + 1, 0, none⟩ = some (sV f.name) ∧ W.cell? ⟨w.heap.size + 1, 1, none⟩ = some (.int .i64 f.params) ∧ W.cell? ⟨w.heap.size + 1, 2, none⟩ = some (.int .i64 f.regs) ∧ W.cell? ⟨w.heap.size + 1, 3, none⟩ = some (.int .i64 f.prio) ∧ W.cell? ⟨w.heap.size + 1, 4, none⟩ = some (.bool f.cl) ∧ W.cell? ⟨w.heap.size + 1, 5, none⟩ = some (.slice ca f.code.length cc)) from fun W hW => by
    subst hwk
    have h0 := alloc_here w (.cells #[.slice fa p.fs.length fc, .slice oa p.os.length oc, .slice va p.vs.length vc] 26)
    have h0 := (Below.heap_alloc _ (.cells #[sV f.name, .int .i64 f.params, .int .i64 f.regs, .int .i64 f.prio, .bool f.cl, .slice ca f.code.length cc] 47) _ (lt_of_block h0)).trans h0
    have k0 := (hW.below.block _ (lt_of_block h0)).trans h0
    have h1 := alloc_here (w.alloc (.cells #[.slice fa p.fs.length fc, .slice oa p.os.length oc, .slice va p.vs.length vc] 26)) (.cells #[sV f.name, .int .i64 f.params, .int .i64 f.regs, .int .i64 f.prio, .bool f.cl, .slice ca f.code.length cc] 47)
    simp only [World.size_alloc] at h1
    have k1 := (hW.below.block _ (lt_of_block h1)).trans h1
    exact ⟨cell_of k0 rfl, cell_of k0 rfl, cell_of k0 rfl, cell_of k1 rfl, cell_of k1 rfl, cell_of k1 rfl, cell_of k1 rfl, cell_of k1 rfl, cell_of k1 rfl⟩)
  have HWZ := Lib.hid (show wk.heap.size = w.heap.size + 2 by rw [hwk]; simp)
  have HW := Lib.hid (show Ext w wk by rw [hwk]; exact (ext_alloc (ext_alloc (Below.refl _ _) _) _))
  have HE0 := Lib.hid (show Ext wk wk from Below.refl _ _)
  generalize f.name = fnm at *
  generalize f.params = fpa at *
  generalize f.regs = rg at *
  generalize f.prio = fpr at *
  generalize f.cl = fcl at *
  go_enter Tryz.func126, Tryz.ntmps126
  go_wp2_with fail
  rw [← hwk]
  clear hwk
  refine (K.out _ (Ext.trans HW.out HE0.out)).mono ?_
  intro w1 hB
  have HE1 := Lib.hid (Ext.trans HE0.out hB)
  clear hB
  obtain ⟨d0_0, d0_1, d0_2, d1_0, d1_1, d1_2, d1_3, d1_4, d1_5⟩ := BX.out _ HE1.out
  go_wp2
  go_ret
  exact ⟨rfl, Ext.trans HW.out HE1.out⟩

set_option maxRecDepth 100000 in
set_option maxHeartbeats 2000000 in
theorem rop_d6 (p : Pg) (A : PA) (f : Fn) (ca : Option Addr) (cc : Nat) (n : Int) (w : World) (h : CkAt w p A f ca) (hn : i64 n) :
    Gives Tryz.prog 126 #[PV p A, FV f ca cc, .int .u8 54, .int .i64 n] w (.int .i64 (ckOpd p f ⟨12, 6⟩ n)) := by
  unfold Gives
  have K := Lib.hid (fun W (hW : Ext w W) => roi_any p A f 6 n W (h.pg.ext hW) hn)
  obtain ⟨fa, fc, oa, oc, va, vc⟩ := A
  dsimp only [PV, FV] at K ⊢
  generalize ckOpd p f ⟨12, 6⟩ n = res at *
  clear h
  obtain ⟨wk, hwk⟩ : ∃ W, W = ((w.alloc (.cells #[.slice fa p.fs.length fc, .slice oa p.os.length oc, .slice va p.vs.length vc] 26)).alloc (.cells #[sV f.name, .int .i64 f.params, .int .i64 f.regs, .int .i64 f.prio, .bool f.cl, .slice ca f.code.length cc] 47)) := ⟨_, rfl⟩
  have BX := Lib.hid (show ∀ W, Ext wk W → (W.cell? ⟨w.heap.size, 0, none⟩ = some (.slice fa p.fs.length fc) ∧ W.cell? ⟨w.heap.size, 1, none⟩ = some (.slice oa p.os.length oc) ∧ W.cell? ⟨w.heap.size, 2, none⟩ = some (.slice va p.vs.length vc) ∧ W.cell? ⟨w.heap.size + 1, 0, none⟩ = some (sV f.name) ∧ W.cell? ⟨w.heap.size + 1, 1, none⟩ = some (.int .i64 f.params) ∧ W.cell? ⟨w.heap.size + 1, 2, none⟩ = some (.int .i64 f.regs) ∧ W.cell? ⟨w.heap.size + 1, 3, none⟩ = some (.int .i64 f.prio) ∧ W.cell? ⟨w.heap.size + 1, 4, none⟩ = some (.bool f.cl) ∧ W.cell? ⟨w.heap.size + 1, 5, none⟩ = some (.slice ca f.code.length cc)) from fun W hW => by
    subst hwk
    have h0 := alloc_here w (.cells #[.slice fa p.fs.length fc, .slice oa p.os.length oc, .slice va p.vs.length vc] 26)
    have h0 := (Below.heap_alloc _ (.cells #[sV f.name, .int .i64 f.params, .int .i64 f.regs, .int .i64 f.prio, .bool f.cl, .slice ca f.code.length cc] 47) _ (lt_of_block h0)).trans h0
    have k0 := (hW.below.block _ (lt_of_block h0)).trans h0
    have h1 := alloc_here (w.alloc (.cells #[.slice fa p.fs.length fc, .slice oa p.os.length oc, .slice va p.vs.length vc] 26)) (.cells #[sV f.name, .int .i64 f.params, .int .i64 f.regs, .int .i64 f.prio, .bool f.cl, .slice ca f.code.length cc] 47)
    simp only [World.size_alloc] at h1
    have k1 := (hW.below.block _ (lt_of_block h1)).trans h1
    exact ⟨cell_of k0 rfl, cell_of k0 rfl, cell_of k0 rfl, cell_of k1 rfl, cell_of k1 rfl, cell_of k1 rfl, cell_of k1 rfl, cell_of k1 rfl, cell_of k1 rfl⟩)
  have HWZ := Lib.hid (show wk.heap.size = w.heap.size + 2 by rw [hwk]; simp)
  have HW := Lib.hid (show Ext w wk by rw [hwk]; exact (ext_alloc (ext_alloc (Below.refl _ _) _) _))
  have HE0 := Lib.hid (show Ext wk wk from Below.refl _ _)
  generalize f.name = fnm at *
  generalize f.params = fpa at *
  generalize f.regs = rg at *
  generalize f.prio = fpr at *
  generalize f.cl = fcl at *
  go_enter Tryz.func126, Tryz.ntmps126
  go_wp2_with fail
  rw [← hwk]
  clear hwk
  refine (K.out _ (Ext.trans HW.out HE0.out)).mono ?_
  intro w1 hB
  have HE1 := Lib.hid (Ext.trans HE0.out hB)
  clear hB
  obtain ⟨d0_0, d0_1, d0_2, d1_0, d1_1, d1_2, d1_3, d1_4, d1_5⟩ := BX.out _ HE1.out
  go_wp2
  go_ret
  exact ⟨rfl, Ext.trans HW.out HE1.out⟩

set_option maxRecDepth 100000 in
set_option maxHeartbeats 2000000 in
theorem rop_d7 (p : Pg) (A : PA) (f : Fn) (ca : Option Addr) (cc : Nat) (n : Int) (w : World) (h : CkAt w p A f ca) (hn : i64 n) :
    Gives Tryz.prog 126 #[PV p A, FV f ca cc, .int .u8 55, .int .i64 n] w (.int .i64 (ckOpd p f ⟨12, 7⟩ n)) := by
  unfold Gives
  have K := Lib.hid (fun W (hW : Ext w W) => roi_any p A f 7 n W (h.pg.ext hW) hn)
  obtain ⟨fa, fc, oa, oc, va, vc⟩ := A
  dsimp only [PV, FV] at K ⊢
  generalize ckOpd p f ⟨12, 7⟩ n = res at *
  clear h
  obtain ⟨wk, hwk⟩ : ∃ W, W = ((w.alloc (.cells #[.slice fa p.fs.length fc, .slice oa p.os.length oc, .slice va p.vs.length vc] 26)).alloc (.cells #[sV f.name, .int .i64 f.params, .int .i64 f.regs, .int .i64 f.prio, .bool f.cl, .slice ca f.code.length cc] 47)) := ⟨_, rfl⟩
  have BX := Lib.hid (show ∀ W, Ext wk W → (W.cell? ⟨w.heap.size, 0, none⟩ = some (.slice fa p.fs.length fc) ∧ W.cell? ⟨w.heap.size, 1, none⟩ = some (.slice oa p.os.length oc) ∧ W.cell? ⟨w.heap.size, 2, none⟩ = some (.slice va p.vs.length vc) ∧ W.cell? ⟨w.heap.size + 1, 0, none⟩ = some (sV f.name) ∧ W.cell? ⟨w.heap.size + 1, 1, none⟩ = some (.int .i64 f.params) ∧ W.cell? ⟨w.heap.size + 1, 2, none⟩ = some (.int .i64 f.regs) ∧ W.cell? ⟨w.heap.size + 1, 3, none⟩ = some (.int .i64 f.prio) ∧ W.cell? ⟨w.heap.size + 1, 4, none⟩ = some (.bool f.cl) ∧ W.cell? ⟨w.heap.size + 1, 5, none⟩ = some (.slice ca f.code.length cc)) from fun W hW => by
    subst hwk
    have h0 := alloc_here w (.cells #[.slice fa p.fs.length fc, .slice oa p.os.length oc, .slice va p.vs.length vc] 26)
    have h0 := (Below.heap_alloc _ (.cells #[sV f.name, .int .i64 f.params, .int .i64 f.regs, .int .i64 f.prio, .bool f.cl, .slice ca f.code.length cc] 47) _ (lt_of_block h0)).trans h0
    have k0 := (hW.below.block _ (lt_of_block h0)).trans h0
    have h1 := alloc_here (w.alloc (.cells #[.slice fa p.fs.length fc, .slice oa p.os.length oc, .slice va p.vs.length vc] 26)) (.cells #[sV f.name, .int .i64 f.params, .int .i64 f.regs, .int .i64 f.prio, .bool f.cl, .slice ca f.code.length cc] 47)
    simp only [World.size_alloc] at h1
    have k1 := (hW.below.block _ (lt_of_block h1)).trans h1
    exact ⟨cell_of k0 rfl, cell_of k0 rfl, cell_of k0 rfl, cell_of k1 rfl, cell_of k1 rfl, cell_of k1 rfl, cell_of k1 rfl, cell_of k1 rfl, cell_of k1 rfl⟩)
  have HWZ := Lib.hid (show wk.heap.size = w.heap.size + 2 by rw [hwk]; simp)
  have HW := Lib.hid (show Ext w wk by rw [hwk]; exact (ext_alloc (ext_alloc (Below.refl _ _) _) _))
  have HE0 := Lib.hid (show Ext wk wk from Below.refl _ _)
  generalize f.name = fnm at *
  generalize f.params = fpa at *
  generalize f.regs = rg at *
  generalize f.prio = fpr at *
  generalize f.cl = fcl at *
  go_enter Tryz.func126, Tryz.ntmps126
  go_wp2_with fail
  rw [← hwk]
  clear hwk
  refine (K.out _ (Ext.trans HW.out HE0.out)).mono ?_
  intro w1 hB
  have HE1 := Lib.hid (Ext.trans HE0.out hB)
  clear hB
  obtain ⟨d0_0, d0_1, d0_2, d1_0, d1_1, d1_2, d1_3, d1_4, d1_5⟩ := BX.out _ HE1.out
  go_wp2
  go_ret
  exact ⟨rfl, Ext.trans HW.out HE1.out⟩

set_option maxRecDepth 100000 in
set_option maxHeartbeats 2000000 in
theorem rop_d8 (p : Pg) (A : PA) (f : Fn) (ca : Option Addr) (cc : Nat) (n : Int) (w : World) (h : CkAt w p A f ca) (hn : i64 n) :
    Gives Tryz.prog 126 #[PV p A, FV f ca cc, .int .u8 56, .int .i64 n] w (.int .i64 (ckOpd p f ⟨12, 8⟩ n)) := by
  unfold Gives
  have K := Lib.hid (fun W (hW : Ext w W) => roi_any p A f 8 n W (h.pg.ext hW) hn)
  obtain ⟨fa, fc, oa, oc, va, vc⟩ := A
  dsimp only [PV, FV] at K ⊢
  generalize ckOpd p f ⟨12, 8⟩ n = res at *
  clear h
  obtain ⟨wk, hwk⟩ : ∃ W, W = ((w.alloc (.cells #[.slice fa p.fs.length fc, .slice oa p.os.length oc, .slice va p.vs.length vc] 26)).alloc (.cells #[sV f.name, .int .i64 f.params, .int .i64 f.regs, .int .i64 f.prio, .bool f.cl, .slice ca f.code.length cc] 47)) := ⟨_, rfl⟩
  have BX := Lib.hid (show ∀ W, Ext wk W → (W.cell? ⟨w.heap.size, 0, none⟩ = some (.slice fa p.fs.length fc) ∧ W.cell? ⟨w.heap.size, 1, none⟩ = some (.slice oa p.os.length oc) ∧ W.cell? ⟨w.heap.size, 2, none⟩ = some (.slice va p.vs.length vc) ∧ W.cell? ⟨w.heap.size + 1, 0, none⟩ = some (sV f.name) ∧ W.cell? ⟨w.heap.size + 1, 1, none⟩ = some (.int .i64 f.params) ∧ W.cell? ⟨w.heap.size + 1, 2, none⟩ = some (.int .i64 f.regs) ∧ W.cell? ⟨w.heap.size + 1, 3, none⟩ = some (.int .i64 f.prio) ∧ W.cell? ⟨w.heap.size + 1, 4, none⟩ = some (.bool f.cl) ∧ W.cell? ⟨w.heap.size + 1, 5, none⟩ = some (.slice ca f.code.length cc)) from fun W hW => by
    subst hwk
    have h0 := alloc_here w (.cells #[.slice fa p.fs.length fc, .slice oa p.os.length oc, .slice va p.vs.length vc] 26)
    have h0 := (Below.heap_alloc _ (.cells #[sV f.name, .int .i64 f.params, .int .i64 f.regs, .int .i64 f.prio, .bool f.cl, .slice ca f.code.length cc] 47) _ (lt_of_block h0)).trans h0
    have k0 := (hW.below.block _ (lt_of_block h0)).trans h0
    have h1 := alloc_here (w.alloc (.cells #[.slice fa p.fs.length fc, .slice oa p.os.length oc, .slice va p.vs.length vc] 26)) (.cells #[sV f.name, .int .i64 f.params, .int .i64 f.regs, .int .i64 f.prio, .bool f.cl, .slice ca f.code.length cc] 47)
    simp only [World.size_alloc] at h1
    have k1 := (hW.below.block _ (lt_of_block h1)).trans h1
    exact ⟨cell_of k0 rfl, cell_of k0 rfl, cell_of k0 rfl, cell_of k1 rfl, cell_of k1 rfl, cell_of k1 rfl, cell_of k1 rfl, cell_of k1 rfl, cell_of k1 rfl⟩)
  have HWZ := Lib.hid (show wk.heap.size = w.heap.size + 2 by rw [hwk]; simp)
  have HW := Lib.hid (show Ext w wk by rw [hwk]; exact (ext_alloc (ext_alloc (Below.refl _ _) _) _))
  have HE0 := Lib.hid (show Ext wk wk from Below.refl _ _)
  generalize f.name = fnm at *
  generalize f.params = fpa at *
  generalize f.regs = rg at *
  generalize f.prio = fpr at *
  generalize f.cl = fcl at *
  go_enter Tryz.func126, Tryz.ntmps126
  go_wp2_with fail
  rw [← hwk]
  clear hwk
  refine (K.out _ (Ext.trans HW.out HE0.out)).mono ?_
  intro w1 hB
  have HE1 := Lib.hid (Ext.trans HE0.out hB)
  clear hB
  obtain ⟨d0_0, d0_1, d0_2, d1_0, d1_1, d1_2, d1_3, d1_4, d1_5⟩ := BX.out _ HE1.out
  go_wp2
  go_ret
  exact ⟨rfl, Ext.trans HW.out HE1.out⟩

set_option maxRecDepth 100000 in
set_option maxHeartbeats 2000000 in
theorem rop_d9 (p : Pg) (A : PA) (f : Fn) (ca : Option Addr) (cc : Nat) (n : Int) (w : World) (h : CkAt w p A f ca) (hn : i64 n) :
    Gives Tryz.prog 126 #[PV p A, FV f ca cc, .int .u8 57, .int .i64 n] w (.int .i64 (ckOpd p f ⟨12, 9⟩ n)) := by
  unfold Gives
  have K := Lib.hid (fun W (hW : Ext w W) => roi_any p A f 9 n W (h.pg.ext hW) hn)
  obtain ⟨fa, fc, oa, oc, va, vc⟩ := A
  dsimp only [PV, FV] at K ⊢
  generalize ckOpd p f ⟨12, 9⟩ n = res at *
  clear h
  obtain ⟨wk, hwk⟩ : ∃ W, W = ((w.alloc (.cells #[.slice fa p.fs.length fc, .slice oa p.os.length oc, .slice va p.vs.length vc] 26)).alloc (.cells #[sV f.name, .int .i64 f.params, .int .i64 f.regs, .int .i64 f.prio, .bool f.cl, .slice ca f.code.length cc] 47)) := ⟨_, rfl⟩
  have BX := Lib.hid (show ∀ W, Ext wk W → (W.cell? ⟨w.heap.size, 0, none⟩ = some (.slice fa p.fs.length fc) ∧ W.cell? ⟨w.heap.size, 1, none⟩ = some (.slice oa p.os.length oc) ∧ W.cell? ⟨w.heap.size, 2, none⟩ = some (.slice va p.vs.length vc) ∧ W.cell? ⟨w.heap.size + 1, 0, none⟩ = some (sV f.name) ∧ W.cell? ⟨w.heap.size + 1, 1, none⟩ = some (.int .i64 f.params) ∧ W.cell? ⟨w.heap.size + 1, 2, none⟩ = some (.int .i64 f.regs) ∧ W.cell? ⟨w.heap.size + 1, 3, none⟩ = some (.int .i64 f.prio) ∧ W.cell? ⟨w.heap.size + 1, 4, none⟩ = some (.bool f.cl) ∧ W.cell? ⟨w.heap.size + 1, 5, none⟩ = some (.slice ca f.code.length cc)) from fun W hW => by
    subst hwk
    have h0 := alloc_here w (.cells #[.slice fa p.fs.length fc, .slice oa p.os.length oc, .slice va p.vs.length vc] 26)
    have h0 := (Below.heap_alloc _ (.cells #[sV f.name, .int .i64 f.params, .int .i64 f.regs, .int .i64 f.prio, .bool f.cl, .slice ca f.code.length cc] 47) _ (lt_of_block h0)).trans h0
    have k0 := (hW.below.block _ (lt_of_block h0)).trans h0
    have h1 := alloc_here (w.alloc (.cells #[.slice fa p.fs.length fc, .slice oa p.os.length oc, .slice va p.vs.length vc] 26)) (.cells #[sV f.name, .int .i64 f.params, .int .i64 f.regs, .int .i64 f.prio, .bool f.cl, .slice ca f.code.length cc] 47)
    simp only [World.size_alloc] at h1
    have k1 := (hW.below.block _ (lt_of_block h1)).trans h1
    exact ⟨cell_of k0 rfl, cell_of k0 rfl, cell_of k0 rfl, cell_of k1 rfl, cell_of k1 rfl, cell_of k1 rfl, cell_of k1 rfl, cell_of k1 rfl, cell_of k1 rfl⟩)
  have HWZ := Lib.hid (show wk.heap.size = w.heap.size + 2 by rw [hwk]; simp)
  have HW := Lib.hid (show Ext w wk by rw [hwk]; exact (ext_alloc (ext_alloc (Below.refl _ _) _) _))
  have HE0 := Lib.hid (show Ext wk wk from Below.refl _ _)
  generalize f.name = fnm at *
  generalize f.params = fpa at *
  generalize f.regs = rg at *
  generalize f.prio = fpr at *
  generalize f.cl = fcl at *
  go_enter Tryz.func126, Tryz.ntmps126
  go_wp2_with fail
  rw [← hwk]
  clear hwk
  refine (K.out _ (Ext.trans HW.out HE0.out)).mono ?_
  intro w1 hB
  have HE1 := Lib.hid (Ext.trans HE0.out hB)
  clear hB
  obtain ⟨d0_0, d0_1, d0_2, d1_0, d1_1, d1_2, d1_3, d1_4, d1_5⟩ := BX.out _ HE1.out
  go_wp2
  go_ret
  exact ⟨rfl, Ext.trans HW.out HE1.out⟩

theorem shTab_kind : ∀ q ∈ shTab, ∀ o ∈ [q.2.a, q.2.b, q.2.c], (0 ≤ o.what ∧ o.what ≤ 12) ∧ (o.what = 12 → 1 ≤ o.kind ∧ o.kind ≤ 9) := by decide
theorem shTab_zero : ∀ q ∈ shTab, ∀ o ∈ [q.2.a, q.2.b, q.2.c], o.what ≠ 12 → o.kind = 0 := by decide
/-- an operand of the thirteen kinds -/
theorem rop_any (p : Pg) (A : PA) (f : Fn) (ca : Option Addr) (cc : Nat) (q : Opd) (n : Int) (w : World) (h : CkAt w p A f ca) (hn : i64 n) (hq : 0 ≤ q.what ∧ q.what ≤ 12) (hq2 : q.what = 12 → 1 ≤ q.kind ∧ q.kind ≤ 9) :
    Gives Tryz.prog 126 #[PV p A, FV f ca cc, .int .u8 (rb q).toNat, .int .i64 n] w (.int .i64 (ckOpd p f q n)) := by
  obtain ⟨k, kd⟩ := q
  dsimp only at hq hq2 ⊢
  obtain ⟨m, rfl⟩ : ∃ m : Nat, k = m := ⟨k.toNat, by omega⟩
  have hm : m ≤ 12 := by omega
  match m, hm with
  | 0, _ => exact rop_0 p A f ca cc kd n w h hn
  | 1, _ => exact rop_1 p A f ca cc kd n w h hn
  | 2, _ => exact rop_2 p A f ca cc kd n w h hn
  | 3, _ => exact rop_3 p A f ca cc kd n w h hn
  | 4, _ => exact rop_4 p A f ca cc kd n w h hn
  | 5, _ => exact rop_5 p A f ca cc kd n w h hn
  | 6, _ => exact rop_6 p A f ca cc kd n w h hn
  | 7, _ => exact rop_7 p A f ca cc kd n w h hn
  | 8, _ => exact rop_8 p A f ca cc kd n w h hn
  | 9, _ => exact rop_9 p A f ca cc kd n w h hn
  | 10, _ => exact rop_10 p A f ca cc kd n w h hn
  | 11, _ => exact rop_11 p A f ca cc kd n w h hn
  | 12, _ =>
    have hk := hq2 rfl
    obtain ⟨d, rfl⟩ : ∃ d : Nat, kd = d := ⟨kd.toNat, by omega⟩
    have hd1 : 1 ≤ d := by omega
    have hd : d ≤ 9 := by omega
    match d, hd1, hd with
    | 1, _, _ => exact rop_d1 p A f ca cc n w h hn
    | 2, _, _ => exact rop_d2 p A f ca cc n w h hn
    | 3, _, _ => exact rop_d3 p A f ca cc n w h hn
    | 4, _, _ => exact rop_d4 p A f ca cc n w h hn
    | 5, _, _ => exact rop_d5 p A f ca cc n w h hn
    | 6, _, _ => exact rop_d6 p A f ca cc n w h hn
    | 7, _, _ => exact rop_d7 p A f ca cc n w h hn
    | 8, _, _ => exact rop_d8 p A f ca cc n w h hn
    | 9, _, _ => exact rop_d9 p A f ca cc n w h hn
end Go.Proofs.YtfkjokbhnblndaaGreatDoor
