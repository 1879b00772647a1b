/- The reference's checkCase. -/
import Derived.Test.YtfkjokbhnblndaaGreatDoorPgQ3
namespace Go.Proofs.YtfkjokbhnblndaaGreatDoor
open Go.RowKit
set_option linter.unusedVariables false
set_option linter.unusedSimpArgs false

set_option maxRecDepth 100000 in
set_option maxHeartbeats 2000000 in
theorem rcase_no (p : Pg) (A : PA) (f : Fn) (ca : Option Addr) (cc : Nat) (k ch r : Int) (w : World) (h : CkAt w p A f ca) (hk : k < 1 ∨ 3 < k) (hc : i64 ch) (hr : i64 r) :
    Gives Tryz.prog 148 #[PV p A, FV f ca cc, .int .i64 k, .int .i64 ch, .int .i64 r] w (.int .i64 (ckCase p f k ch r)) := by
  unfold Gives
  have KI := Lib.hid (fun W (hW : Ext w W) => roi_any p A f 6 ch W (h.pg.ext hW) hc)
  have hr1 := h.regs.1
  have hr2 := h.regs.2
  have HR := Lib.hid (show ckCase p f k ch r = 8 by unfold ckCase; rw [if_neg (by omega), if_neg (by omega)])
  generalize ckCase p f k ch r = res at *
  have KB := fun W => between_any k 1 3 W
  simp only [show inB k 1 3 = false by simp [inB]; omega] at KB
  have KB := Lib.hid KB
  clear h
  obtain ⟨fa, fc, oa, oc, va, vc⟩ := A
  dsimp only [PV, FV] at KI ⊢
  generalize f.name = fnm at *
  generalize f.params = fpa at *
  generalize f.regs = rg at *
  generalize f.prio = fpr at *
  generalize f.cl = fcl at *
  obtain ⟨wk, hwk⟩ : ∃ W, W = ((w.alloc (.cells #[.slice fa p.fs.length fc, .slice oa p.os.length oc, .slice va p.vs.length vc] 26)).alloc (.cells #[sV fnm, .int .i64 fpa, .int .i64 rg, .int .i64 fpr, .bool fcl, .slice ca f.code.length cc] 47)) := ⟨_, rfl⟩
  have BX := Lib.hid (show ∀ W, Ext wk W → (W.cell? ⟨w.heap.size, 0, none⟩ = some (.slice fa p.fs.length fc) ∧ W.cell? ⟨w.heap.size, 1, none⟩ = some (.slice oa p.os.length oc) ∧ W.cell? ⟨w.heap.size, 2, none⟩ = some (.slice va p.vs.length vc) ∧ W.cell? ⟨w.heap.size + 1, 0, none⟩ = some (sV fnm) ∧ W.cell? ⟨w.heap.size + 1, 1, none⟩ = some (.int .i64 fpa) ∧ W.cell? ⟨w.heap.size + 1, 2, none⟩ = some (.int .i64 rg) ∧ W.cell? ⟨w.heap.size + 1, 3, none⟩ = some (.int .i64 fpr) ∧ W.cell? ⟨w.heap.size + 1, 4, none⟩ = some (.bool fcl) ∧ W.cell? ⟨w.heap.size + 1, 5, none⟩ = some (.slice ca f.code.length cc)) from fun W hW => by
    subst hwk
    have h0 := alloc_here w (.cells #[.slice fa p.fs.length fc, .slice oa p.os.length oc, .slice va p.vs.length vc] 26)
    have h0 := (Below.heap_alloc _ (.cells #[sV fnm, .int .i64 fpa, .int .i64 rg, .int .i64 fpr, .bool fcl, .slice ca f.code.length cc] 47) _ (lt_of_block h0)).trans h0
    have k0 := (hW.below.block _ (lt_of_block h0)).trans h0
    have h1 := alloc_here (w.alloc (.cells #[.slice fa p.fs.length fc, .slice oa p.os.length oc, .slice va p.vs.length vc] 26)) (.cells #[sV fnm, .int .i64 fpa, .int .i64 rg, .int .i64 fpr, .bool fcl, .slice ca f.code.length cc] 47)
    simp only [World.size_alloc] at h1
    have k1 := (hW.below.block _ (lt_of_block h1)).trans h1
    exact ⟨cell_of k0 rfl, cell_of k0 rfl, cell_of k0 rfl, cell_of k1 rfl, cell_of k1 rfl, cell_of k1 rfl, cell_of k1 rfl, cell_of k1 rfl, cell_of k1 rfl⟩)
  have HWZ := Lib.hid (show wk.heap.size = w.heap.size + 2 by rw [hwk]; simp)
  have HW := Lib.hid (show Ext w wk by rw [hwk]; exact (ext_alloc (ext_alloc (Below.refl _ _) _) _))
  have HE0 := Lib.hid (show Ext wk wk from Below.refl _ _)
  go_enter Tryz.func148, Tryz.ntmps148
  go_wp2_with fail
  rw [← hwk]
  clear hwk
  refine (KB.out _).mono ?_
  rintro _ v1 ⟨rfl, hv1⟩
  rw [hv1]
  clear hv1 v1
  obtain ⟨d0_0, d0_1, d0_2, d1_0, d1_1, d1_2, d1_3, d1_4, d1_5⟩ := BX.out _ HE0.out
  go_wp2
  go_ret
  exact ⟨by rw [HR.out]; rfl, Ext.trans HW.out HE0.out⟩

set_option maxRecDepth 100000 in
set_option maxHeartbeats 2000000 in
theorem rcase_1 (p : Pg) (A : PA) (f : Fn) (ca : Option Addr) (cc : Nat) (ch r : Int) (w : World) (h : CkAt w p A f ca) (hc : i64 ch) (hr : i64 r) :
    Gives Tryz.prog 148 #[PV p A, FV f ca cc, .int .i64 1, .int .i64 ch, .int .i64 r] w (.int .i64 (ckCase p f 1 ch r)) := by
  unfold Gives
  have KI := Lib.hid (fun W (hW : Ext w W) => roi_any p A f 6 ch W (h.pg.ext hW) hc)
  have hr1 := h.regs.1
  have hr2 := h.regs.2
  have HR := Lib.hid (show ckCase p f 1 ch r = if ckOpd p f ⟨12, 6⟩ ch ≠ 0 then ckOpd p f ⟨12, 6⟩ ch else if inB r 0 (f.regs - 1) = false then 2 else 0 by simp [ckCase])
  generalize ckCase p f 1 ch r = res at *
  generalize ckOpd p f ⟨12, 6⟩ ch = e0 at *
  have KB := fun W => between_any 1 1 3 W
  simp only [show inB 1 1 3 = true by decide] at KB
  have KB := Lib.hid KB
  have KR := Lib.hid (fun W => between_any r 0 (f.regs - 1) W)
  generalize inB r 0 (f.regs - 1) = bi at *
  clear h
  obtain ⟨fa, fc, oa, oc, va, vc⟩ := A
  dsimp only [PV, FV] at KI ⊢
  generalize f.name = fnm at *
  generalize f.params = fpa at *
  generalize f.regs = rg at *
  generalize f.prio = fpr at *
  generalize f.cl = fcl at *
  obtain ⟨wk, hwk⟩ : ∃ W, W = ((w.alloc (.cells #[.slice fa p.fs.length fc, .slice oa p.os.length oc, .slice va p.vs.length vc] 26)).alloc (.cells #[sV fnm, .int .i64 fpa, .int .i64 rg, .int .i64 fpr, .bool fcl, .slice ca f.code.length cc] 47)) := ⟨_, rfl⟩
  have BX := Lib.hid (show ∀ W, Ext wk W → (W.cell? ⟨w.heap.size, 0, none⟩ = some (.slice fa p.fs.length fc) ∧ W.cell? ⟨w.heap.size, 1, none⟩ = some (.slice oa p.os.length oc) ∧ W.cell? ⟨w.heap.size, 2, none⟩ = some (.slice va p.vs.length vc) ∧ W.cell? ⟨w.heap.size + 1, 0, none⟩ = some (sV fnm) ∧ W.cell? ⟨w.heap.size + 1, 1, none⟩ = some (.int .i64 fpa) ∧ W.cell? ⟨w.heap.size + 1, 2, none⟩ = some (.int .i64 rg) ∧ W.cell? ⟨w.heap.size + 1, 3, none⟩ = some (.int .i64 fpr) ∧ W.cell? ⟨w.heap.size + 1, 4, none⟩ = some (.bool fcl) ∧ W.cell? ⟨w.heap.size + 1, 5, none⟩ = some (.slice ca f.code.length cc)) from fun W hW => by
    subst hwk
    have h0 := alloc_here w (.cells #[.slice fa p.fs.length fc, .slice oa p.os.length oc, .slice va p.vs.length vc] 26)
    have h0 := (Below.heap_alloc _ (.cells #[sV fnm, .int .i64 fpa, .int .i64 rg, .int .i64 fpr, .bool fcl, .slice ca f.code.length cc] 47) _ (lt_of_block h0)).trans h0
    have k0 := (hW.below.block _ (lt_of_block h0)).trans h0
    have h1 := alloc_here (w.alloc (.cells #[.slice fa p.fs.length fc, .slice oa p.os.length oc, .slice va p.vs.length vc] 26)) (.cells #[sV fnm, .int .i64 fpa, .int .i64 rg, .int .i64 fpr, .bool fcl, .slice ca f.code.length cc] 47)
    simp only [World.size_alloc] at h1
    have k1 := (hW.below.block _ (lt_of_block h1)).trans h1
    exact ⟨cell_of k0 rfl, cell_of k0 rfl, cell_of k0 rfl, cell_of k1 rfl, cell_of k1 rfl, cell_of k1 rfl, cell_of k1 rfl, cell_of k1 rfl, cell_of k1 rfl⟩)
  have HWZ := Lib.hid (show wk.heap.size = w.heap.size + 2 by rw [hwk]; simp)
  have HW := Lib.hid (show Ext w wk by rw [hwk]; exact (ext_alloc (ext_alloc (Below.refl _ _) _) _))
  have HE0 := Lib.hid (show Ext wk wk from Below.refl _ _)
  go_enter Tryz.func148, Tryz.ntmps148
  go_wp2_with fail
  rw [← hwk]
  clear hwk
  refine (KB.out _).mono ?_
  rintro _ v1 ⟨rfl, hv1⟩
  rw [hv1]
  clear hv1 v1
  obtain ⟨d0_0, d0_1, d0_2, d1_0, d1_1, d1_2, d1_3, d1_4, d1_5⟩ := BX.out _ HE0.out
  go_wp2_with fail
  clear d0_0 d0_1 d0_2 d1_0 d1_1 d1_2 d1_3 d1_4 d1_5
  refine (KI.out _ (Ext.trans HW.out HE0.out)).mono ?_
  intro w1 hB
  have HE1 := Lib.hid (Ext.trans HE0.out hB)
  clear hB
  obtain ⟨d0_0, d0_1, d0_2, d1_0, d1_1, d1_2, d1_3, d1_4, d1_5⟩ := BX.out _ HE1.out
  by_cases he : e0 = 0
  case neg =>
    have g0 : (e0 != 0) = true := by rw [bne_iff_ne]; exact he
    rw [if_pos he] at HR
    clear he
    go_wp2
    go_ret
    exact ⟨by rw [HR.out]; rfl, Ext.trans HW.out HE1.out⟩
  case pos =>
    rw [if_neg (not_not_intro he)] at HR
    subst he
    go_wp2_with fail
    clear d0_0 d0_1 d0_2 d1_0 d1_1 d1_2 d1_3 d1_4 d1_5
    refine (KR.out _).mono ?_
    rintro _ v1 ⟨rfl, hv1⟩
    rw [hv1]
    clear hv1 v1
    obtain ⟨d0_0, d0_1, d0_2, d1_0, d1_1, d1_2, d1_3, d1_4, d1_5⟩ := BX.out _ HE1.out
    cases bi with
    | false =>
      go_wp2
      go_ret
      exact ⟨by rw [HR.out]; rfl, Ext.trans HW.out HE1.out⟩
    | true =>
      go_wp2
      go_ret
      exact ⟨by rw [HR.out]; rfl, Ext.trans HW.out HE1.out⟩

set_option maxRecDepth 100000 in
set_option maxHeartbeats 2000000 in
theorem rcase_2 (p : Pg) (A : PA) (f : Fn) (ca : Option Addr) (cc : Nat) (ch r : Int) (w : World) (h : CkAt w p A f ca) (hc : i64 ch) (hr : i64 r) :
    Gives Tryz.prog 148 #[PV p A, FV f ca cc, .int .i64 2, .int .i64 ch, .int .i64 r] w (.int .i64 (ckCase p f 2 ch r)) := by
  unfold Gives
  have KI := Lib.hid (fun W (hW : Ext w W) => roi_any p A f 6 ch W (h.pg.ext hW) hc)
  have hr1 := h.regs.1
  have hr2 := h.regs.2
  have HR := Lib.hid (show ckCase p f 2 ch r = if ckOpd p f ⟨12, 6⟩ ch ≠ 0 then ckOpd p f ⟨12, 6⟩ ch else if r ≠ 0 then 1 else 0 by simp [ckCase])
  generalize ckCase p f 2 ch r = res at *
  generalize ckOpd p f ⟨12, 6⟩ ch = e0 at *
  have KB := fun W => between_any 2 1 3 W
  simp only [show inB 2 1 3 = true by decide] at KB
  have KB := Lib.hid KB
  clear h
  obtain ⟨fa, fc, oa, oc, va, vc⟩ := A
  dsimp only [PV, FV] at KI ⊢
  generalize f.name = fnm at *
  generalize f.params = fpa at *
  generalize f.regs = rg at *
  generalize f.prio = fpr at *
  generalize f.cl = fcl at *
  obtain ⟨wk, hwk⟩ : ∃ W, W = ((w.alloc (.cells #[.slice fa p.fs.length fc, .slice oa p.os.length oc, .slice va p.vs.length vc] 26)).alloc (.cells #[sV fnm, .int .i64 fpa, .int .i64 rg, .int .i64 fpr, .bool fcl, .slice ca f.code.length cc] 47)) := ⟨_, rfl⟩
  have BX := Lib.hid (show ∀ W, Ext wk W → (W.cell? ⟨w.heap.size, 0, none⟩ = some (.slice fa p.fs.length fc) ∧ W.cell? ⟨w.heap.size, 1, none⟩ = some (.slice oa p.os.length oc) ∧ W.cell? ⟨w.heap.size, 2, none⟩ = some (.slice va p.vs.length vc) ∧ W.cell? ⟨w.heap.size + 1, 0, none⟩ = some (sV fnm) ∧ W.cell? ⟨w.heap.size + 1, 1, none⟩ = some (.int .i64 fpa) ∧ W.cell? ⟨w.heap.size + 1, 2, none⟩ = some (.int .i64 rg) ∧ W.cell? ⟨w.heap.size + 1, 3, none⟩ = some (.int .i64 fpr) ∧ W.cell? ⟨w.heap.size + 1, 4, none⟩ = some (.bool fcl) ∧ W.cell? ⟨w.heap.size + 1, 5, none⟩ = some (.slice ca f.code.length cc)) from fun W hW => by
    subst hwk
    have h0 := alloc_here w (.cells #[.slice fa p.fs.length fc, .slice oa p.os.length oc, .slice va p.vs.length vc] 26)
    have h0 := (Below.heap_alloc _ (.cells #[sV fnm, .int .i64 fpa, .int .i64 rg, .int .i64 fpr, .bool fcl, .slice ca f.code.length cc] 47) _ (lt_of_block h0)).trans h0
    have k0 := (hW.below.block _ (lt_of_block h0)).trans h0
    have h1 := alloc_here (w.alloc (.cells #[.slice fa p.fs.length fc, .slice oa p.os.length oc, .slice va p.vs.length vc] 26)) (.cells #[sV fnm, .int .i64 fpa, .int .i64 rg, .int .i64 fpr, .bool fcl, .slice ca f.code.length cc] 47)
    simp only [World.size_alloc] at h1
    have k1 := (hW.below.block _ (lt_of_block h1)).trans h1
    exact ⟨cell_of k0 rfl, cell_of k0 rfl, cell_of k0 rfl, cell_of k1 rfl, cell_of k1 rfl, cell_of k1 rfl, cell_of k1 rfl, cell_of k1 rfl, cell_of k1 rfl⟩)
  have HWZ := Lib.hid (show wk.heap.size = w.heap.size + 2 by rw [hwk]; simp)
  have HW := Lib.hid (show Ext w wk by rw [hwk]; exact (ext_alloc (ext_alloc (Below.refl _ _) _) _))
  have HE0 := Lib.hid (show Ext wk wk from Below.refl _ _)
  go_enter Tryz.func148, Tryz.ntmps148
  go_wp2_with fail
  rw [← hwk]
  clear hwk
  refine (KB.out _).mono ?_
  rintro _ v1 ⟨rfl, hv1⟩
  rw [hv1]
  clear hv1 v1
  obtain ⟨d0_0, d0_1, d0_2, d1_0, d1_1, d1_2, d1_3, d1_4, d1_5⟩ := BX.out _ HE0.out
  go_wp2_with fail
  clear d0_0 d0_1 d0_2 d1_0 d1_1 d1_2 d1_3 d1_4 d1_5
  refine (KI.out _ (Ext.trans HW.out HE0.out)).mono ?_
  intro w1 hB
  have HE1 := Lib.hid (Ext.trans HE0.out hB)
  clear hB
  obtain ⟨d0_0, d0_1, d0_2, d1_0, d1_1, d1_2, d1_3, d1_4, d1_5⟩ := BX.out _ HE1.out
  by_cases he : e0 = 0
  case neg =>
    have g0 : (e0 != 0) = true := by rw [bne_iff_ne]; exact he
    rw [if_pos he] at HR
    clear he
    go_wp2
    go_ret
    exact ⟨by rw [HR.out]; rfl, Ext.trans HW.out HE1.out⟩
  case pos =>
    rw [if_neg (not_not_intro he)] at HR
    subst he
    by_cases hz : r = 0
    case pos =>
      subst hz
      go_wp2
      go_ret
      exact ⟨by rw [HR.out]; rfl, Ext.trans HW.out HE1.out⟩
    case neg =>
      have g1 : (r != 0) = true := by rw [bne_iff_ne]; exact hz
      rw [if_pos hz] at HR
      clear hz
      go_wp2
      go_ret
      exact ⟨by rw [HR.out]; rfl, Ext.trans HW.out HE1.out⟩

set_option maxRecDepth 100000 in
set_option maxHeartbeats 2000000 in
theorem rcase_3 (p : Pg) (A : PA) (f : Fn) (ca : Option Addr) (cc : Nat) (ch r : Int) (w : World) (h : CkAt w p A f ca) (hc : i64 ch) (hr : i64 r) :
    Gives Tryz.prog 148 #[PV p A, FV f ca cc, .int .i64 3, .int .i64 ch, .int .i64 r] w (.int .i64 (ckCase p f 3 ch r)) := by
  unfold Gives
  have KI := Lib.hid (fun W (hW : Ext w W) => roi_any p A f 6 ch W (h.pg.ext hW) hc)
  have hr1 := h.regs.1
  have hr2 := h.regs.2
  have HR := Lib.hid (show ckCase p f 3 ch r = (if ch ≠ 0 ∨ r ≠ 0 then 1 else 0) by simp [ckCase])
  generalize ckCase p f 3 ch r = res at *
  have KB := fun W => between_any 3 1 3 W
  simp only [show inB 3 1 3 = true by decide] at KB
  have KB := Lib.hid KB
  clear h
  obtain ⟨fa, fc, oa, oc, va, vc⟩ := A
  dsimp only [PV, FV] at KI ⊢
  generalize f.name = fnm at *
  generalize f.params = fpa at *
  generalize f.regs = rg at *
  generalize f.prio = fpr at *
  generalize f.cl = fcl at *
  obtain ⟨wk, hwk⟩ : ∃ W, W = ((w.alloc (.cells #[.slice fa p.fs.length fc, .slice oa p.os.length oc, .slice va p.vs.length vc] 26)).alloc (.cells #[sV fnm, .int .i64 fpa, .int .i64 rg, .int .i64 fpr, .bool fcl, .slice ca f.code.length cc] 47)) := ⟨_, rfl⟩
  have BX := Lib.hid (show ∀ W, Ext wk W → (W.cell? ⟨w.heap.size, 0, none⟩ = some (.slice fa p.fs.length fc) ∧ W.cell? ⟨w.heap.size, 1, none⟩ = some (.slice oa p.os.length oc) ∧ W.cell? ⟨w.heap.size, 2, none⟩ = some (.slice va p.vs.length vc) ∧ W.cell? ⟨w.heap.size + 1, 0, none⟩ = some (sV fnm) ∧ W.cell? ⟨w.heap.size + 1, 1, none⟩ = some (.int .i64 fpa) ∧ W.cell? ⟨w.heap.size + 1, 2, none⟩ = some (.int .i64 rg) ∧ W.cell? ⟨w.heap.size + 1, 3, none⟩ = some (.int .i64 fpr) ∧ W.cell? ⟨w.heap.size + 1, 4, none⟩ = some (.bool fcl) ∧ W.cell? ⟨w.heap.size + 1, 5, none⟩ = some (.slice ca f.code.length cc)) from fun W hW => by
    subst hwk
    have h0 := alloc_here w (.cells #[.slice fa p.fs.length fc, .slice oa p.os.length oc, .slice va p.vs.length vc] 26)
    have h0 := (Below.heap_alloc _ (.cells #[sV fnm, .int .i64 fpa, .int .i64 rg, .int .i64 fpr, .bool fcl, .slice ca f.code.length cc] 47) _ (lt_of_block h0)).trans h0
    have k0 := (hW.below.block _ (lt_of_block h0)).trans h0
    have h1 := alloc_here (w.alloc (.cells #[.slice fa p.fs.length fc, .slice oa p.os.length oc, .slice va p.vs.length vc] 26)) (.cells #[sV fnm, .int .i64 fpa, .int .i64 rg, .int .i64 fpr, .bool fcl, .slice ca f.code.length cc] 47)
    simp only [World.size_alloc] at h1
    have k1 := (hW.below.block _ (lt_of_block h1)).trans h1
    exact ⟨cell_of k0 rfl, cell_of k0 rfl, cell_of k0 rfl, cell_of k1 rfl, cell_of k1 rfl, cell_of k1 rfl, cell_of k1 rfl, cell_of k1 rfl, cell_of k1 rfl⟩)
  have HWZ := Lib.hid (show wk.heap.size = w.heap.size + 2 by rw [hwk]; simp)
  have HW := Lib.hid (show Ext w wk by rw [hwk]; exact (ext_alloc (ext_alloc (Below.refl _ _) _) _))
  have HE0 := Lib.hid (show Ext wk wk from Below.refl _ _)
  go_enter Tryz.func148, Tryz.ntmps148
  go_wp2_with fail
  rw [← hwk]
  clear hwk
  refine (KB.out _).mono ?_
  rintro _ v1 ⟨rfl, hv1⟩
  rw [hv1]
  clear hv1 v1
  obtain ⟨d0_0, d0_1, d0_2, d1_0, d1_1, d1_2, d1_3, d1_4, d1_5⟩ := BX.out _ HE0.out
  by_cases hc0 : ch = 0
  case neg =>
    have g1 : (ch != 0) = true := by rw [bne_iff_ne]; exact hc0
    rw [if_pos (.inl hc0)] at HR
    clear hc0
    go_wp2
    go_ret
    exact ⟨by rw [HR.out]; rfl, Ext.trans HW.out HE0.out⟩
  case pos =>
    subst hc0
    by_cases hz : r = 0
    case pos =>
      subst hz
      go_wp2
      go_ret
      exact ⟨by rw [HR.out]; rfl, Ext.trans HW.out HE0.out⟩
    case neg =>
      have g1 : (r != 0) = true := by rw [bne_iff_ne]; exact hz
      rw [if_pos (.inr hz)] at HR
      clear hz
      go_wp2
      go_ret
      exact ⟨by rw [HR.out]; rfl, Ext.trans HW.out HE0.out⟩

theorem rcase_any (p : Pg) (A : PA) (f : Fn) (ca : Option Addr) (cc : Nat) (k ch r : Int) (w : World) (h : CkAt w p A f ca) (hc : i64 ch) (hr : i64 r) :
    Gives Tryz.prog 148 #[PV p A, FV f ca cc, .int .i64 k, .int .i64 ch, .int .i64 r] w (.int .i64 (ckCase p f k ch r)) := by
  by_cases h0 : k < 1 ∨ 3 < k
  · exact rcase_no p A f ca cc k ch r w h h0 hc hr
  · obtain rfl | rfl | rfl : k = 1 ∨ k = 2 ∨ k = 3 := by omega
    · exact rcase_1 p A f ca cc ch r w h hc hr
    · exact rcase_2 p A f ca cc ch r w h hc hr
    · exact rcase_3 p A f ca cc ch r w h hc hr
end Go.Proofs.YtfkjokbhnblndaaGreatDoor
