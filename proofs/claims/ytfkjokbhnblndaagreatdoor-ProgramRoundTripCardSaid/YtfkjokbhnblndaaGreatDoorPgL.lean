/- A checker's cases, args, instr. -/
import Derived.Test.YtfkjokbhnblndaaGreatDoorPgK
import Derived.Test.YtfkjokbhnblndaaGreatDoorPgF3
namespace Go.Proofs.YtfkjokbhnblndaaGreatDoor
open Go.RowKit
set_option linter.unusedVariables false
set_option linter.unusedSimpArgs false

theorem ckCases_at (p : Pg) (f : Fn) (l : List Int) (m : Nat) (h : l.length = 3 * m) (h1 : 1 ≤ m) (h6 : m ≤ 6) : ckCases p f l = (if fstE (cz p f l) m ≠ 0 then fstE (cz p f l) m else if defs l m > 1 then 16 else 0) := by
  unfold ckCases
  rw [if_neg (by omega), show l.length / 3 = m by omega]

set_option maxRecDepth 100000 in
set_option maxHeartbeats 2000000 in
theorem cases_bad (p : Pg) (A : PA) (f : Fn) (ca : Option Addr) (cc : Nat) (l : List Int) (a : Option Addr) (c : Nat) (w : World) (hll : l.length ≤ 17592186044416) (h : l.length = 0 ∨ l.length % 3 ≠ 0 ∨ l.length > 18) :
    Gives Tryz.prog 137 #[CKV p A f ca cc, .slice a l.length c] w (.int .i64 (ckCases p f l)) := by
  have HR := Lib.hid (show ckCases p f l = 10 by unfold ckCases; rw [if_pos h])
  unfold Gives
  obtain ⟨fa, fc, oa, oc, va, vc⟩ := A
  dsimp only [CKV]
  generalize ckCases p f l = res at *
  generalize l.length = n at *
  by_cases h0 : n = 0
  · subst h0
    clear h
    
    go_enter Tryz.func137, Tryz.ntmps137
    go_wp2
    refine bodyPost_ret (v := .int .i64 10) (by simp [results, Tryz.f137, go_sem]) rfl ⟨by rw [HR.out], by go_grown⟩
  · have g0 : ((n : Int) == 0) = false := by rw [beq_eq_false_iff_ne]; omega
    by_cases h3 : n % 3 = 0
    · have h18 : (18 : Int) < n := by omega
      have g3 : ((n : Int) % 3 != 0) = false := by rw [bne_eq_false_iff_eq]; omega
      have g3' : ((n : Int).tmod 3 != 0) = false := by rw [bne_eq_false_iff_eq, Int.tmod_eq_emod_of_nonneg (by omega)]; omega
      clear h
      
      go_enter Tryz.func137, Tryz.ntmps137
      go_wp2
      refine bodyPost_ret (v := .int .i64 10) (by simp [results, Tryz.f137, go_sem]) rfl ⟨by rw [HR.out], by go_grown⟩
    · have g3 : ((n : Int) % 3 != 0) = true := by rw [bne_iff_ne]; omega
      have g3' : ((n : Int).tmod 3 != 0) = true := by rw [bne_iff_ne, Int.tmod_eq_emod_of_nonneg (by omega)]; omega
      clear h
      
      go_enter Tryz.func137, Tryz.ntmps137
      go_wp2
      refine bodyPost_ret (v := .int .i64 10) (by simp [results, Tryz.f137, go_sem]) rfl ⟨by rw [HR.out], by go_grown⟩

theorem cases_any (p : Pg) (A : PA) (f : Fn) (ca : Option Addr) (cc : Nat) (l : List Int) (a : Option Addr) (c : Nat) (w : World) (h : CkAt w p A f ca) (hl : IntsAt w a l) (hll : l.length ≤ 17592186044416) (hcap : l.length ≤ c) (hw : ∀ n ∈ l, i64 n) :
    Gives Tryz.prog 137 #[CKV p A f ca cc, .slice a l.length c] w (.int .i64 (ckCases p f l)) := by
  by_cases hb : l.length = 0 ∨ l.length % 3 ≠ 0 ∨ l.length > 18
  · exact cases_bad p A f ca cc l a c w hll hb
  · obtain ⟨b, off, rfl, -⟩ := hl 0 (by omega)
    rw [ckCases_at p f l (l.length / 3) (by omega) (by omega) (by omega)]
    exact cases_ok p A f ca cc l b off c (l.length / 3) w h hl (by omega) (by omega) (by omega) hcap hw

set_option maxRecDepth 100000 in
set_option maxHeartbeats 2000000 in
theorem args_0 (p : Pg) (A : PA) (f : Fn) (ca : Option Addr) (cc : Nat) (x : Ins) (a : Option Addr) (c : Nat) (w : World) (h : CkAt w p A f ca) (hx : x.wf) (hI : IntsAt w a x.args) (hcap : x.args.length ≤ c) :
    Gives Tryz.prog 112 #[CKV p A f ca cc, .int .i64 0, IV x a c] w (.int .i64 (ckArgs p f 0 x)) := by
  unfold Gives
  obtain ⟨fa, fc, oa, oc, va, vc⟩ := A
  dsimp only [CKV, IV]
  have hxl := hx.len
  by_cases hb : x.args.length = 0
  · have HR := Lib.hid (show ckArgs p f 0 x = 0 by simp [ckArgs, hb])
    generalize ckArgs p f 0 x = res at *
    rw [hb]
    clear h
    obtain ⟨wk, hwk⟩ : ∃ W, W = ((w.alloc (.cells #[.slice fa p.fs.length fc, .slice oa p.os.length oc, .slice va p.vs.length vc, sV f.name, .int .i64 f.params, .int .i64 f.regs, .int .i64 f.prio, .bool f.cl, .slice ca f.code.length cc] 142)).alloc (.cells #[.int .i64 x.op, .int .i64 x.a, .int .i64 x.b, .int .i64 x.c, .slice a 0 c] 50)) := ⟨_, rfl⟩
    have BX := Lib.hid (show ∀ W, Ext wk W → (W.cell? ⟨w.heap.size, 0, none⟩ = some (.slice fa p.fs.length fc) ∧ W.cell? ⟨w.heap.size, 1, none⟩ = some (.slice oa p.os.length oc) ∧ W.cell? ⟨w.heap.size, 2, none⟩ = some (.slice va p.vs.length vc) ∧ W.cell? ⟨w.heap.size, 3, none⟩ = some (sV f.name) ∧ W.cell? ⟨w.heap.size, 4, none⟩ = some (.int .i64 f.params) ∧ W.cell? ⟨w.heap.size, 5, none⟩ = some (.int .i64 f.regs) ∧ W.cell? ⟨w.heap.size, 6, none⟩ = some (.int .i64 f.prio) ∧ W.cell? ⟨w.heap.size, 7, none⟩ = some (.bool f.cl) ∧ W.cell? ⟨w.heap.size, 8, none⟩ = some (.slice ca f.code.length cc) ∧ W.cell? ⟨w.heap.size + 1, 0, none⟩ = some (.int .i64 x.op) ∧ W.cell? ⟨w.heap.size + 1, 1, none⟩ = some (.int .i64 x.a) ∧ W.cell? ⟨w.heap.size + 1, 2, none⟩ = some (.int .i64 x.b) ∧ W.cell? ⟨w.heap.size + 1, 3, none⟩ = some (.int .i64 x.c) ∧ W.cell? ⟨w.heap.size + 1, 4, none⟩ = some (.slice a 0 c)) from fun W hW => by
      subst hwk
      have h0 := alloc_here w (.cells #[.slice fa p.fs.length fc, .slice oa p.os.length oc, .slice va p.vs.length vc, sV f.name, .int .i64 f.params, .int .i64 f.regs, .int .i64 f.prio, .bool f.cl, .slice ca f.code.length cc] 142)
      have h0 := (Below.heap_alloc _ (.cells #[.int .i64 x.op, .int .i64 x.a, .int .i64 x.b, .int .i64 x.c, .slice a 0 c] 50) _ (lt_of_block h0)).trans h0
      have k0 := (hW.below.block _ (lt_of_block h0)).trans h0
      have h1 := alloc_here (w.alloc (.cells #[.slice fa p.fs.length fc, .slice oa p.os.length oc, .slice va p.vs.length vc, sV f.name, .int .i64 f.params, .int .i64 f.regs, .int .i64 f.prio, .bool f.cl, .slice ca f.code.length cc] 142)) (.cells #[.int .i64 x.op, .int .i64 x.a, .int .i64 x.b, .int .i64 x.c, .slice a 0 c] 50)
      simp only [World.size_alloc] at h1
      have k1 := (hW.below.block _ (lt_of_block h1)).trans h1
      exact ⟨cell_of k0 rfl, cell_of k0 rfl, cell_of k0 rfl, cell_of k0 rfl, cell_of k0 rfl, cell_of k0 rfl, cell_of k0 rfl, cell_of k0 rfl, cell_of k0 rfl, cell_of k1 rfl, cell_of k1 rfl, cell_of k1 rfl, cell_of k1 rfl, cell_of k1 rfl⟩)
    have HW := Lib.hid (show Ext w wk by rw [hwk]; exact (ext_alloc (ext_alloc (Below.refl _ _) _) _))
    have HE0 := Lib.hid (show Ext wk wk from Below.refl _ _)
    generalize f.name = fnm at *
    generalize f.params = fpa at *
    generalize f.regs = rg at *
    generalize f.prio = fpr at *
    generalize f.cl = fcl at *
    generalize x.op = xo at *
    generalize x.a = xa at *
    generalize x.b = xb at *
    generalize x.c = xc at *
    go_enter Tryz.func112, Tryz.ntmps112
    go_wp2
    rw [← hwk]
    clear hwk
    go_ret
    exact ⟨by rw [HR.out]; rfl, HW.out⟩
  · have HR := Lib.hid (show ckArgs p f 0 x = 1 by unfold ckArgs; rw [if_pos rfl, if_pos (by omega)])
    generalize ckArgs p f 0 x = res at *
    have hb1 : (0 : Int) < x.args.length := by omega
    clear h
    obtain ⟨wk, hwk⟩ : ∃ W, W = ((w.alloc (.cells #[.slice fa p.fs.length fc, .slice oa p.os.length oc, .slice va p.vs.length vc, sV f.name, .int .i64 f.params, .int .i64 f.regs, .int .i64 f.prio, .bool f.cl, .slice ca f.code.length cc] 142)).alloc (.cells #[.int .i64 x.op, .int .i64 x.a, .int .i64 x.b, .int .i64 x.c, .slice a x.args.length c] 50)) := ⟨_, rfl⟩
    have BX := Lib.hid (show ∀ W, Ext wk W → (W.cell? ⟨w.heap.size, 0, none⟩ = some (.slice fa p.fs.length fc) ∧ W.cell? ⟨w.heap.size, 1, none⟩ = some (.slice oa p.os.length oc) ∧ W.cell? ⟨w.heap.size, 2, none⟩ = some (.slice va p.vs.length vc) ∧ W.cell? ⟨w.heap.size, 3, none⟩ = some (sV f.name) ∧ W.cell? ⟨w.heap.size, 4, none⟩ = some (.int .i64 f.params) ∧ W.cell? ⟨w.heap.size, 5, none⟩ = some (.int .i64 f.regs) ∧ W.cell? ⟨w.heap.size, 6, none⟩ = some (.int .i64 f.prio) ∧ W.cell? ⟨w.heap.size, 7, none⟩ = some (.bool f.cl) ∧ W.cell? ⟨w.heap.size, 8, none⟩ = some (.slice ca f.code.length cc) ∧ W.cell? ⟨w.heap.size + 1, 0, none⟩ = some (.int .i64 x.op) ∧ W.cell? ⟨w.heap.size + 1, 1, none⟩ = some (.int .i64 x.a) ∧ W.cell? ⟨w.heap.size + 1, 2, none⟩ = some (.int .i64 x.b) ∧ W.cell? ⟨w.heap.size + 1, 3, none⟩ = some (.int .i64 x.c) ∧ W.cell? ⟨w.heap.size + 1, 4, none⟩ = some (.slice a x.args.length c)) from fun W hW => by
      subst hwk
      have h0 := alloc_here w (.cells #[.slice fa p.fs.length fc, .slice oa p.os.length oc, .slice va p.vs.length vc, sV f.name, .int .i64 f.params, .int .i64 f.regs, .int .i64 f.prio, .bool f.cl, .slice ca f.code.length cc] 142)
      have h0 := (Below.heap_alloc _ (.cells #[.int .i64 x.op, .int .i64 x.a, .int .i64 x.b, .int .i64 x.c, .slice a x.args.length c] 50) _ (lt_of_block h0)).trans h0
      have k0 := (hW.below.block _ (lt_of_block h0)).trans h0
      have h1 := alloc_here (w.alloc (.cells #[.slice fa p.fs.length fc, .slice oa p.os.length oc, .slice va p.vs.length vc, sV f.name, .int .i64 f.params, .int .i64 f.regs, .int .i64 f.prio, .bool f.cl, .slice ca f.code.length cc] 142)) (.cells #[.int .i64 x.op, .int .i64 x.a, .int .i64 x.b, .int .i64 x.c, .slice a x.args.length c] 50)
      simp only [World.size_alloc] at h1
      have k1 := (hW.below.block _ (lt_of_block h1)).trans h1
      exact ⟨cell_of k0 rfl, cell_of k0 rfl, cell_of k0 rfl, cell_of k0 rfl, cell_of k0 rfl, cell_of k0 rfl, cell_of k0 rfl, cell_of k0 rfl, cell_of k0 rfl, cell_of k1 rfl, cell_of k1 rfl, cell_of k1 rfl, cell_of k1 rfl, cell_of k1 rfl⟩)
    have HW := Lib.hid (show Ext w wk by rw [hwk]; exact (ext_alloc (ext_alloc (Below.refl _ _) _) _))
    have HE0 := Lib.hid (show Ext wk wk from Below.refl _ _)
    generalize f.name = fnm at *
    generalize f.params = fpa at *
    generalize f.regs = rg at *
    generalize f.prio = fpr at *
    generalize f.cl = fcl at *
    generalize x.op = xo at *
    generalize x.a = xa at *
    generalize x.b = xb at *
    generalize x.c = xc at *
    go_enter Tryz.func112, Tryz.ntmps112
    go_wp2
    rw [← hwk]
    clear hwk
    go_ret
    exact ⟨by rw [HR.out]; rfl, HW.out⟩

set_option maxRecDepth 100000 in
set_option maxHeartbeats 2000000 in
theorem args_3 (p : Pg) (A : PA) (f : Fn) (ca : Option Addr) (cc : Nat) (x : Ins) (a : Option Addr) (c : Nat) (w : World) (h : CkAt w p A f ca) (hx : x.wf) (hI : IntsAt w a x.args) (hcap : x.args.length ≤ c) :
    Gives Tryz.prog 112 #[CKV p A f ca cc, .int .i64 3, IV x a c] w (.int .i64 (ckArgs p f 3 x)) := by
  unfold Gives
  obtain ⟨fa, fc, oa, oc, va, vc⟩ := A
  dsimp only [CKV, IV]
  have hxl := hx.len
  have HR := Lib.hid (show ckArgs p f 3 x = ckCases p f x.args from rfl)
  generalize ckArgs p f 3 x = res at *
  have K := Lib.hid (fun W (hW : Ext w W) => cases_any p ⟨fa, fc, oa, oc, va, vc⟩ f ca cc x.args a c W (h.ext hW) (hI.below hW) hxl hcap hx.args)
  dsimp only [CKV] at K
  generalize ckCases p f x.args = re at *
  clear h hI
  obtain ⟨wk, hwk⟩ : ∃ W, W = ((w.alloc (.cells #[.slice fa p.fs.length fc, .slice oa p.os.length oc, .slice va p.vs.length vc, sV f.name, .int .i64 f.params, .int .i64 f.regs, .int .i64 f.prio, .bool f.cl, .slice ca f.code.length cc] 142)).alloc (.cells #[.int .i64 x.op, .int .i64 x.a, .int .i64 x.b, .int .i64 x.c, .slice a x.args.length c] 50)) := ⟨_, rfl⟩
  have BX := Lib.hid (show ∀ W, Ext wk W → (W.cell? ⟨w.heap.size, 0, none⟩ = some (.slice fa p.fs.length fc) ∧ W.cell? ⟨w.heap.size, 1, none⟩ = some (.slice oa p.os.length oc) ∧ W.cell? ⟨w.heap.size, 2, none⟩ = some (.slice va p.vs.length vc) ∧ W.cell? ⟨w.heap.size, 3, none⟩ = some (sV f.name) ∧ W.cell? ⟨w.heap.size, 4, none⟩ = some (.int .i64 f.params) ∧ W.cell? ⟨w.heap.size, 5, none⟩ = some (.int .i64 f.regs) ∧ W.cell? ⟨w.heap.size, 6, none⟩ = some (.int .i64 f.prio) ∧ W.cell? ⟨w.heap.size, 7, none⟩ = some (.bool f.cl) ∧ W.cell? ⟨w.heap.size, 8, none⟩ = some (.slice ca f.code.length cc) ∧ W.cell? ⟨w.heap.size + 1, 0, none⟩ = some (.int .i64 x.op) ∧ W.cell? ⟨w.heap.size + 1, 1, none⟩ = some (.int .i64 x.a) ∧ W.cell? ⟨w.heap.size + 1, 2, none⟩ = some (.int .i64 x.b) ∧ W.cell? ⟨w.heap.size + 1, 3, none⟩ = some (.int .i64 x.c) ∧ W.cell? ⟨w.heap.size + 1, 4, none⟩ = some (.slice a x.args.length c)) from fun W hW => by
    subst hwk
    have h0 := alloc_here w (.cells #[.slice fa p.fs.length fc, .slice oa p.os.length oc, .slice va p.vs.length vc, sV f.name, .int .i64 f.params, .int .i64 f.regs, .int .i64 f.prio, .bool f.cl, .slice ca f.code.length cc] 142)
    have h0 := (Below.heap_alloc _ (.cells #[.int .i64 x.op, .int .i64 x.a, .int .i64 x.b, .int .i64 x.c, .slice a x.args.length c] 50) _ (lt_of_block h0)).trans h0
    have k0 := (hW.below.block _ (lt_of_block h0)).trans h0
    have h1 := alloc_here (w.alloc (.cells #[.slice fa p.fs.length fc, .slice oa p.os.length oc, .slice va p.vs.length vc, sV f.name, .int .i64 f.params, .int .i64 f.regs, .int .i64 f.prio, .bool f.cl, .slice ca f.code.length cc] 142)) (.cells #[.int .i64 x.op, .int .i64 x.a, .int .i64 x.b, .int .i64 x.c, .slice a x.args.length c] 50)
    simp only [World.size_alloc] at h1
    have k1 := (hW.below.block _ (lt_of_block h1)).trans h1
    exact ⟨cell_of k0 rfl, cell_of k0 rfl, cell_of k0 rfl, cell_of k0 rfl, cell_of k0 rfl, cell_of k0 rfl, cell_of k0 rfl, cell_of k0 rfl, cell_of k0 rfl, cell_of k1 rfl, cell_of k1 rfl, cell_of k1 rfl, cell_of k1 rfl, cell_of k1 rfl⟩)
  have HW := Lib.hid (show Ext w wk by rw [hwk]; exact (ext_alloc (ext_alloc (Below.refl _ _) _) _))
  have HE0 := Lib.hid (show Ext wk wk from Below.refl _ _)
  generalize f.name = fnm at *
  generalize f.params = fpa at *
  generalize f.regs = rg at *
  generalize f.prio = fpr at *
  generalize f.cl = fcl at *
  generalize x.op = xo at *
  generalize x.a = xa at *
  generalize x.b = xb at *
  generalize x.c = xc at *
  go_enter Tryz.func112, Tryz.ntmps112
  go_wp2_with fail
  rw [← hwk]
  clear hwk
  refine (K.out _ HW.out).mono ?_
  intro w1 hB
  have HE1 := Lib.hid (Ext.trans HE0.out hB)
  clear hB
  obtain ⟨d0_0, d0_1, d0_2, d0_3, d0_4, d0_5, d0_6, d0_7, d0_8, d1_0, d1_1, d1_2, d1_3, d1_4⟩ := BX.out _ HE1.out
  go_wp2
  go_ret
  exact ⟨by rw [HR.out]; rfl, Ext.trans HW.out HE1.out⟩

set_option maxRecDepth 100000 in
set_option maxHeartbeats 2000000 in
theorem args_1 (p : Pg) (A : PA) (f : Fn) (ca : Option Addr) (cc : Nat) (x : Ins) (a : Option Addr) (c : Nat) (w : World) (h : CkAt w p A f ca) (hx : x.wf) (hI : IntsAt w a x.args) (hcap : x.args.length ≤ c) (hb : ∃ m : Nat, x.b = m ∧ m < p.fs.length) :
    Gives Tryz.prog 112 #[CKV p A f ca cc, .int .i64 1, IV x a c] w (.int .i64 (ckArgs p f 1 x)) := by
  unfold Gives
  obtain ⟨fa, fc, oa, oc, va, vc⟩ := A
  dsimp only [CKV, IV]
  have hxl := hx.len
  obtain ⟨m, hxb, hm⟩ := hb
  obtain ⟨b', o', a', c', e', hcs, -⟩ := h.pg.fs m hm
  dsimp only at e'
  subst e'
  have x0 := hcs.c1
  have HR := Lib.hid (show ckArgs p f 1 x = ckRegs f x.args (p.fs[m]).params by simp [ckArgs, hxb, hm])
  have hpw := (h.pg.wf.fs _ (List.getElem_mem hm)).params
  generalize (p.fs[m]).params = want at *
  clear hcs
  generalize ckArgs p f 1 x = res at *
  rw [hxb]
  clear hxb
  have hdrop : True := trivial
  have HA := Lib.hid h
  have hrg := h.regs
  have HI := Lib.hid hI
  clear h hI
  by_cases hl : (x.args.length : Int) = want
  · have HR2 := Lib.hid (show res = if x.args.any (regOut f) then 2 else 0 by rw [HR.out]; unfold ckRegs; rw [if_neg (by simpa using hl)])
    have hl1 : ((x.args.length : Int) != want) = false := by rw [bne_eq_false_iff_eq]; exact hl
    obtain ⟨wk, hwk⟩ : ∃ W, W = ((w.alloc (.cells #[.slice (some ⟨b', o', none⟩) p.fs.length fc, .slice oa p.os.length oc, .slice va p.vs.length vc, sV f.name, .int .i64 f.params, .int .i64 f.regs, .int .i64 f.prio, .bool f.cl, .slice ca f.code.length cc] 142)).alloc (.cells #[.int .i64 x.op, .int .i64 x.a, .int .i64 (m : Int), .int .i64 x.c, .slice a x.args.length c] 50)) := ⟨_, rfl⟩
    have BX := Lib.hid (show ∀ W, Ext wk W → (W.cell? ⟨w.heap.size, 0, none⟩ = some (.slice (some ⟨b', o', none⟩) p.fs.length fc) ∧ W.cell? ⟨w.heap.size, 1, none⟩ = some (.slice oa p.os.length oc) ∧ W.cell? ⟨w.heap.size, 2, none⟩ = some (.slice va p.vs.length vc) ∧ W.cell? ⟨w.heap.size, 3, none⟩ = some (sV f.name) ∧ W.cell? ⟨w.heap.size, 4, none⟩ = some (.int .i64 f.params) ∧ W.cell? ⟨w.heap.size, 5, none⟩ = some (.int .i64 f.regs) ∧ W.cell? ⟨w.heap.size, 6, none⟩ = some (.int .i64 f.prio) ∧ W.cell? ⟨w.heap.size, 7, none⟩ = some (.bool f.cl) ∧ W.cell? ⟨w.heap.size, 8, none⟩ = some (.slice ca f.code.length cc) ∧ W.cell? ⟨w.heap.size + 1, 0, none⟩ = some (.int .i64 x.op) ∧ W.cell? ⟨w.heap.size + 1, 1, none⟩ = some (.int .i64 x.a) ∧ W.cell? ⟨w.heap.size + 1, 2, none⟩ = some (.int .i64 (m : Int)) ∧ W.cell? ⟨w.heap.size + 1, 3, none⟩ = some (.int .i64 x.c) ∧ W.cell? ⟨w.heap.size + 1, 4, none⟩ = some (.slice a x.args.length c)) from fun W hW => by
      subst hwk
      have h0 := alloc_here w (.cells #[.slice (some ⟨b', o', none⟩) p.fs.length fc, .slice oa p.os.length oc, .slice va p.vs.length vc, sV f.name, .int .i64 f.params, .int .i64 f.regs, .int .i64 f.prio, .bool f.cl, .slice ca f.code.length cc] 142)
      have h0 := (Below.heap_alloc _ (.cells #[.int .i64 x.op, .int .i64 x.a, .int .i64 (m : Int), .int .i64 x.c, .slice a x.args.length c] 50) _ (lt_of_block h0)).trans h0
      have k0 := (hW.below.block _ (lt_of_block h0)).trans h0
      have h1 := alloc_here (w.alloc (.cells #[.slice (some ⟨b', o', none⟩) p.fs.length fc, .slice oa p.os.length oc, .slice va p.vs.length vc, sV f.name, .int .i64 f.params, .int .i64 f.regs, .int .i64 f.prio, .bool f.cl, .slice ca f.code.length cc] 142)) (.cells #[.int .i64 x.op, .int .i64 x.a, .int .i64 (m : Int), .int .i64 x.c, .slice a x.args.length c] 50)
      simp only [World.size_alloc] at h1
      have k1 := (hW.below.block _ (lt_of_block h1)).trans h1
      exact ⟨cell_of k0 rfl, cell_of k0 rfl, cell_of k0 rfl, cell_of k0 rfl, cell_of k0 rfl, cell_of k0 rfl, cell_of k0 rfl, cell_of k0 rfl, cell_of k0 rfl, cell_of k1 rfl, cell_of k1 rfl, cell_of k1 rfl, cell_of k1 rfl, cell_of k1 rfl⟩)
    have HW := Lib.hid (show Ext w wk by rw [hwk]; exact (ext_alloc (ext_alloc (Below.refl _ _) _) _))
    have HE0 := Lib.hid (show Ext wk wk from Below.refl _ _)
    have x1 := cell_ext x0 HW.out
    have hx0 := cell_lt2 x0
    have hb0 : wk.heap[w.heap.size]? = some (.cells #[.slice (some ⟨b', o', none⟩) p.fs.length fc, .slice oa p.os.length oc, .slice va p.vs.length vc, sV f.name, .int .i64 f.params, .int .i64 f.regs, .int .i64 f.prio, .bool f.cl, .slice ca f.code.length cc] 142 (0, 0)) := by
      rw [hwk]; exact (Below.heap_alloc _ _ _ (by simp)).trans (alloc_here _ _)
    have KF := Lib.hid (fun (W0 : World) (hW0 : Ext wk W0) => show Gives Tryz.prog 138 #[.slice a x.args.length c, .func (.func 139) #[] #[.pointer (some ⟨w.heap.size, 0, none⟩)]] W0 (.bool (x.args.any (regOut f))) from
      ContainsInt_any x.args a c 139 #[.pointer (some ⟨w.heap.size, 0, none⟩)] (regOut f) W0 (HI.out.below (Ext.trans HW.out hW0)) hxl (enters_fn Tryz.func139 (by kernel_rfl) rfl) (fun j hj W hW =>
        closReg p ⟨(some ⟨b', o', none⟩), fc, oa, oc, va, vc⟩ f ca cc _ w.heap.size W hrg (((Ext.trans hW0 hW).below.block _ (lt_of_block hb0)).trans hb0)))
    clear hb0
    generalize x.args.any (regOut f) = an at *
    generalize f.name = fnm at *
    generalize f.params = fpa at *
    generalize f.regs = rg at *
    generalize f.prio = fpr at *
    generalize f.cl = fcl at *
    generalize x.op = xo at *
    generalize x.a = xa at *
    generalize x.c = xc at *
    go_enter Tryz.func112, Tryz.ntmps112
    go_wp2_with fail
    rw [← hwk]
    clear hwk
    refine (KF.out _ (Below.refl _ _)).mono ?_
    intro w1 hB
    have HE1 := Lib.hid (Ext.trans HE0.out hB)
    clear hB
    cases an with
    | true => go_wp2; go_ret; exact ⟨by rw [HR2.out]; rfl, Ext.trans HW.out HE1.out⟩
    | false => go_wp2; go_ret; exact ⟨by rw [HR2.out]; rfl, Ext.trans HW.out HE1.out⟩
  · have HR2 := Lib.hid (show res = 10 by rw [HR.out]; unfold ckRegs; rw [if_pos hl])
    have hl1 : ((x.args.length : Int) != want) = true := by rw [bne_iff_ne]; exact hl
    obtain ⟨wk, hwk⟩ : ∃ W, W = ((w.alloc (.cells #[.slice (some ⟨b', o', none⟩) p.fs.length fc, .slice oa p.os.length oc, .slice va p.vs.length vc, sV f.name, .int .i64 f.params, .int .i64 f.regs, .int .i64 f.prio, .bool f.cl, .slice ca f.code.length cc] 142)).alloc (.cells #[.int .i64 x.op, .int .i64 x.a, .int .i64 (m : Int), .int .i64 x.c, .slice a x.args.length c] 50)) := ⟨_, rfl⟩
    have BX := Lib.hid (show ∀ W, Ext wk W → (W.cell? ⟨w.heap.size, 0, none⟩ = some (.slice (some ⟨b', o', none⟩) p.fs.length fc) ∧ W.cell? ⟨w.heap.size, 1, none⟩ = some (.slice oa p.os.length oc) ∧ W.cell? ⟨w.heap.size, 2, none⟩ = some (.slice va p.vs.length vc) ∧ W.cell? ⟨w.heap.size, 3, none⟩ = some (sV f.name) ∧ W.cell? ⟨w.heap.size, 4, none⟩ = some (.int .i64 f.params) ∧ W.cell? ⟨w.heap.size, 5, none⟩ = some (.int .i64 f.regs) ∧ W.cell? ⟨w.heap.size, 6, none⟩ = some (.int .i64 f.prio) ∧ W.cell? ⟨w.heap.size, 7, none⟩ = some (.bool f.cl) ∧ W.cell? ⟨w.heap.size, 8, none⟩ = some (.slice ca f.code.length cc) ∧ W.cell? ⟨w.heap.size + 1, 0, none⟩ = some (.int .i64 x.op) ∧ W.cell? ⟨w.heap.size + 1, 1, none⟩ = some (.int .i64 x.a) ∧ W.cell? ⟨w.heap.size + 1, 2, none⟩ = some (.int .i64 (m : Int)) ∧ W.cell? ⟨w.heap.size + 1, 3, none⟩ = some (.int .i64 x.c) ∧ W.cell? ⟨w.heap.size + 1, 4, none⟩ = some (.slice a x.args.length c)) from fun W hW => by
      subst hwk
      have h0 := alloc_here w (.cells #[.slice (some ⟨b', o', none⟩) p.fs.length fc, .slice oa p.os.length oc, .slice va p.vs.length vc, sV f.name, .int .i64 f.params, .int .i64 f.regs, .int .i64 f.prio, .bool f.cl, .slice ca f.code.length cc] 142)
      have h0 := (Below.heap_alloc _ (.cells #[.int .i64 x.op, .int .i64 x.a, .int .i64 (m : Int), .int .i64 x.c, .slice a x.args.length c] 50) _ (lt_of_block h0)).trans h0
      have k0 := (hW.below.block _ (lt_of_block h0)).trans h0
      have h1 := alloc_here (w.alloc (.cells #[.slice (some ⟨b', o', none⟩) p.fs.length fc, .slice oa p.os.length oc, .slice va p.vs.length vc, sV f.name, .int .i64 f.params, .int .i64 f.regs, .int .i64 f.prio, .bool f.cl, .slice ca f.code.length cc] 142)) (.cells #[.int .i64 x.op, .int .i64 x.a, .int .i64 (m : Int), .int .i64 x.c, .slice a x.args.length c] 50)
      simp only [World.size_alloc] at h1
      have k1 := (hW.below.block _ (lt_of_block h1)).trans h1
      exact ⟨cell_of k0 rfl, cell_of k0 rfl, cell_of k0 rfl, cell_of k0 rfl, cell_of k0 rfl, cell_of k0 rfl, cell_of k0 rfl, cell_of k0 rfl, cell_of k0 rfl, cell_of k1 rfl, cell_of k1 rfl, cell_of k1 rfl, cell_of k1 rfl, cell_of k1 rfl⟩)
    have HW := Lib.hid (show Ext w wk by rw [hwk]; exact (ext_alloc (ext_alloc (Below.refl _ _) _) _))
    have HE0 := Lib.hid (show Ext wk wk from Below.refl _ _)
    have x1 := cell_ext x0 HW.out
    have hx0 := cell_lt2 x0
    generalize f.name = fnm at *
    generalize f.params = fpa at *
    generalize f.regs = rg at *
    generalize f.prio = fpr at *
    generalize f.cl = fcl at *
    generalize x.op = xo at *
    generalize x.a = xa at *
    generalize x.c = xc at *
    go_enter Tryz.func112, Tryz.ntmps112
    go_wp2
    rw [← hwk]
    clear hwk
    go_ret
    exact ⟨by rw [HR2.out]; rfl, HW.out⟩

set_option maxRecDepth 100000 in
set_option maxHeartbeats 2000000 in
theorem args_2 (p : Pg) (A : PA) (f : Fn) (ca : Option Addr) (cc : Nat) (x : Ins) (a : Option Addr) (c : Nat) (w : World) (h : CkAt w p A f ca) (hx : x.wf) (hI : IntsAt w a x.args) (hcap : x.args.length ≤ c) :
    Gives Tryz.prog 112 #[CKV p A f ca cc, .int .i64 2, IV x a c] w (.int .i64 (ckArgs p f 2 x)) := by
  unfold Gives
  obtain ⟨fa, fc, oa, oc, va, vc⟩ := A
  dsimp only [CKV, IV]
  have hxl := hx.len
  have HR := Lib.hid (show ckArgs p f 2 x = ckRegs f x.args 2 from rfl)
  generalize ckArgs p f 2 x = res at *
  have hdrop : True := trivial
  have HA := Lib.hid h
  have hrg := h.regs
  have HI := Lib.hid hI
  clear h hI
  by_cases hl : (x.args.length : Int) = 2
  · have HR2 := Lib.hid (show res = if x.args.any (regOut f) then 2 else 0 by rw [HR.out]; unfold ckRegs; rw [if_neg (by simpa using hl)])
    have hl1 : ((x.args.length : Int) != 2) = false := by rw [bne_eq_false_iff_eq]; exact hl
    obtain ⟨wk, hwk⟩ : ∃ W, W = ((w.alloc (.cells #[.slice fa p.fs.length fc, .slice oa p.os.length oc, .slice va p.vs.length vc, sV f.name, .int .i64 f.params, .int .i64 f.regs, .int .i64 f.prio, .bool f.cl, .slice ca f.code.length cc] 142)).alloc (.cells #[.int .i64 x.op, .int .i64 x.a, .int .i64 x.b, .int .i64 x.c, .slice a x.args.length c] 50)) := ⟨_, rfl⟩
    have BX := Lib.hid (show ∀ W, Ext wk W → (W.cell? ⟨w.heap.size, 0, none⟩ = some (.slice fa p.fs.length fc) ∧ W.cell? ⟨w.heap.size, 1, none⟩ = some (.slice oa p.os.length oc) ∧ W.cell? ⟨w.heap.size, 2, none⟩ = some (.slice va p.vs.length vc) ∧ W.cell? ⟨w.heap.size, 3, none⟩ = some (sV f.name) ∧ W.cell? ⟨w.heap.size, 4, none⟩ = some (.int .i64 f.params) ∧ W.cell? ⟨w.heap.size, 5, none⟩ = some (.int .i64 f.regs) ∧ W.cell? ⟨w.heap.size, 6, none⟩ = some (.int .i64 f.prio) ∧ W.cell? ⟨w.heap.size, 7, none⟩ = some (.bool f.cl) ∧ W.cell? ⟨w.heap.size, 8, none⟩ = some (.slice ca f.code.length cc) ∧ W.cell? ⟨w.heap.size + 1, 0, none⟩ = some (.int .i64 x.op) ∧ W.cell? ⟨w.heap.size + 1, 1, none⟩ = some (.int .i64 x.a) ∧ W.cell? ⟨w.heap.size + 1, 2, none⟩ = some (.int .i64 x.b) ∧ W.cell? ⟨w.heap.size + 1, 3, none⟩ = some (.int .i64 x.c) ∧ W.cell? ⟨w.heap.size + 1, 4, none⟩ = some (.slice a x.args.length c)) from fun W hW => by
      subst hwk
      have h0 := alloc_here w (.cells #[.slice fa p.fs.length fc, .slice oa p.os.length oc, .slice va p.vs.length vc, sV f.name, .int .i64 f.params, .int .i64 f.regs, .int .i64 f.prio, .bool f.cl, .slice ca f.code.length cc] 142)
      have h0 := (Below.heap_alloc _ (.cells #[.int .i64 x.op, .int .i64 x.a, .int .i64 x.b, .int .i64 x.c, .slice a x.args.length c] 50) _ (lt_of_block h0)).trans h0
      have k0 := (hW.below.block _ (lt_of_block h0)).trans h0
      have h1 := alloc_here (w.alloc (.cells #[.slice fa p.fs.length fc, .slice oa p.os.length oc, .slice va p.vs.length vc, sV f.name, .int .i64 f.params, .int .i64 f.regs, .int .i64 f.prio, .bool f.cl, .slice ca f.code.length cc] 142)) (.cells #[.int .i64 x.op, .int .i64 x.a, .int .i64 x.b, .int .i64 x.c, .slice a x.args.length c] 50)
      simp only [World.size_alloc] at h1
      have k1 := (hW.below.block _ (lt_of_block h1)).trans h1
      exact ⟨cell_of k0 rfl, cell_of k0 rfl, cell_of k0 rfl, cell_of k0 rfl, cell_of k0 rfl, cell_of k0 rfl, cell_of k0 rfl, cell_of k0 rfl, cell_of k0 rfl, cell_of k1 rfl, cell_of k1 rfl, cell_of k1 rfl, cell_of k1 rfl, cell_of k1 rfl⟩)
    have HW := Lib.hid (show Ext w wk by rw [hwk]; exact (ext_alloc (ext_alloc (Below.refl _ _) _) _))
    have HE0 := Lib.hid (show Ext wk wk from Below.refl _ _)
    have hb0 : wk.heap[w.heap.size]? = some (.cells #[.slice fa p.fs.length fc, .slice oa p.os.length oc, .slice va p.vs.length vc, sV f.name, .int .i64 f.params, .int .i64 f.regs, .int .i64 f.prio, .bool f.cl, .slice ca f.code.length cc] 142 (0, 0)) := by
      rw [hwk]; exact (Below.heap_alloc _ _ _ (by simp)).trans (alloc_here _ _)
    have KF := Lib.hid (fun (W0 : World) (hW0 : Ext wk W0) => show Gives Tryz.prog 138 #[.slice a x.args.length c, .func (.func 139) #[] #[.pointer (some ⟨w.heap.size, 0, none⟩)]] W0 (.bool (x.args.any (regOut f))) from
      ContainsInt_any x.args a c 139 #[.pointer (some ⟨w.heap.size, 0, none⟩)] (regOut f) W0 (HI.out.below (Ext.trans HW.out hW0)) hxl (enters_fn Tryz.func139 (by kernel_rfl) rfl) (fun j hj W hW =>
        closReg p ⟨fa, fc, oa, oc, va, vc⟩ f ca cc _ w.heap.size W hrg (((Ext.trans hW0 hW).below.block _ (lt_of_block hb0)).trans hb0)))
    clear hb0
    generalize x.args.any (regOut f) = an at *
    generalize f.name = fnm at *
    generalize f.params = fpa at *
    generalize f.regs = rg at *
    generalize f.prio = fpr at *
    generalize f.cl = fcl at *
    generalize x.op = xo at *
    generalize x.a = xa at *
    generalize x.b = xb at *
    generalize x.c = xc at *
    go_enter Tryz.func112, Tryz.ntmps112
    go_wp2_with fail
    rw [← hwk]
    clear hwk
    refine (KF.out _ (Below.refl _ _)).mono ?_
    intro w1 hB
    have HE1 := Lib.hid (Ext.trans HE0.out hB)
    clear hB
    cases an with
    | true => go_wp2; go_ret; exact ⟨by rw [HR2.out]; rfl, Ext.trans HW.out HE1.out⟩
    | false => go_wp2; go_ret; exact ⟨by rw [HR2.out]; rfl, Ext.trans HW.out HE1.out⟩
  · have HR2 := Lib.hid (show res = 10 by rw [HR.out]; unfold ckRegs; rw [if_pos hl])
    have hl1 : ((x.args.length : Int) != 2) = true := by rw [bne_iff_ne]; exact hl
    obtain ⟨wk, hwk⟩ : ∃ W, W = ((w.alloc (.cells #[.slice fa p.fs.length fc, .slice oa p.os.length oc, .slice va p.vs.length vc, sV f.name, .int .i64 f.params, .int .i64 f.regs, .int .i64 f.prio, .bool f.cl, .slice ca f.code.length cc] 142)).alloc (.cells #[.int .i64 x.op, .int .i64 x.a, .int .i64 x.b, .int .i64 x.c, .slice a x.args.length c] 50)) := ⟨_, rfl⟩
    have BX := Lib.hid (show ∀ W, Ext wk W → (W.cell? ⟨w.heap.size, 0, none⟩ = some (.slice fa p.fs.length fc) ∧ W.cell? ⟨w.heap.size, 1, none⟩ = some (.slice oa p.os.length oc) ∧ W.cell? ⟨w.heap.size, 2, none⟩ = some (.slice va p.vs.length vc) ∧ W.cell? ⟨w.heap.size, 3, none⟩ = some (sV f.name) ∧ W.cell? ⟨w.heap.size, 4, none⟩ = some (.int .i64 f.params) ∧ W.cell? ⟨w.heap.size, 5, none⟩ = some (.int .i64 f.regs) ∧ W.cell? ⟨w.heap.size, 6, none⟩ = some (.int .i64 f.prio) ∧ W.cell? ⟨w.heap.size, 7, none⟩ = some (.bool f.cl) ∧ W.cell? ⟨w.heap.size, 8, none⟩ = some (.slice ca f.code.length cc) ∧ W.cell? ⟨w.heap.size + 1, 0, none⟩ = some (.int .i64 x.op) ∧ W.cell? ⟨w.heap.size + 1, 1, none⟩ = some (.int .i64 x.a) ∧ W.cell? ⟨w.heap.size + 1, 2, none⟩ = some (.int .i64 x.b) ∧ W.cell? ⟨w.heap.size + 1, 3, none⟩ = some (.int .i64 x.c) ∧ W.cell? ⟨w.heap.size + 1, 4, none⟩ = some (.slice a x.args.length c)) from fun W hW => by
      subst hwk
      have h0 := alloc_here w (.cells #[.slice fa p.fs.length fc, .slice oa p.os.length oc, .slice va p.vs.length vc, sV f.name, .int .i64 f.params, .int .i64 f.regs, .int .i64 f.prio, .bool f.cl, .slice ca f.code.length cc] 142)
      have h0 := (Below.heap_alloc _ (.cells #[.int .i64 x.op, .int .i64 x.a, .int .i64 x.b, .int .i64 x.c, .slice a x.args.length c] 50) _ (lt_of_block h0)).trans h0
      have k0 := (hW.below.block _ (lt_of_block h0)).trans h0
      have h1 := alloc_here (w.alloc (.cells #[.slice fa p.fs.length fc, .slice oa p.os.length oc, .slice va p.vs.length vc, sV f.name, .int .i64 f.params, .int .i64 f.regs, .int .i64 f.prio, .bool f.cl, .slice ca f.code.length cc] 142)) (.cells #[.int .i64 x.op, .int .i64 x.a, .int .i64 x.b, .int .i64 x.c, .slice a x.args.length c] 50)
      simp only [World.size_alloc] at h1
      have k1 := (hW.below.block _ (lt_of_block h1)).trans h1
      exact ⟨cell_of k0 rfl, cell_of k0 rfl, cell_of k0 rfl, cell_of k0 rfl, cell_of k0 rfl, cell_of k0 rfl, cell_of k0 rfl, cell_of k0 rfl, cell_of k0 rfl, cell_of k1 rfl, cell_of k1 rfl, cell_of k1 rfl, cell_of k1 rfl, cell_of k1 rfl⟩)
    have HW := Lib.hid (show Ext w wk by rw [hwk]; exact (ext_alloc (ext_alloc (Below.refl _ _) _) _))
    have HE0 := Lib.hid (show Ext wk wk from Below.refl _ _)
    generalize f.name = fnm at *
    generalize f.params = fpa at *
    generalize f.regs = rg at *
    generalize f.prio = fpr at *
    generalize f.cl = fcl at *
    generalize x.op = xo at *
    generalize x.a = xa at *
    generalize x.b = xb at *
    generalize x.c = xc at *
    go_enter Tryz.func112, Tryz.ntmps112
    go_wp2
    rw [← hwk]
    clear hwk
    go_ret
    exact ⟨by rw [HR2.out]; rfl, HW.out⟩

end Go.Proofs.YtfkjokbhnblndaaGreatDoor
