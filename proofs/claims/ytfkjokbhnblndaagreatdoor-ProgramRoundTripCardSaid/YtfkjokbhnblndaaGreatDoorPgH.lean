/- checkVar; a checker's register; operand. -/
import Derived.Test.YtfkjokbhnblndaaGreatDoorPgG
namespace Go.Proofs.YtfkjokbhnblndaaGreatDoor
open Go.RowKit
set_option linter.unusedVariables false
set_option linter.unusedSimpArgs false

theorem ckVa_at (p : Pg) (i : Nat) (hi : i < p.vs.length) : ckVa p i = (if isNm (p.vs[i]).name = false then 5
    else if inB (p.vs[i]).init (-1099511627776) 1099511627776 = false then 2
    else if p.os.any (fun x => x.name == (p.vs[i]).name) then 6
    else if (p.vs.take i).any (fun x => x.name == (p.vs[i]).name) then 6 else 0) := by
  unfold ckVa
  rw [List.getElem?_eq_getElem hi]

set_option maxRecDepth 100000 in
set_option maxHeartbeats 2000000 in
theorem checkVar_any (p : Pg) (A : PA) (i : Nat) (w : World) (h : PgAt w p A) (hi : i < p.vs.length) : Gives Tryz.prog 36 #[PV p A, .int .i64 (i : Int)] w (.int .i64 (ckVa p i)) := by
  unfold Gives
  have HP := Lib.hid h
  have HCK := Lib.hid (ckVa_at p i hi)
  generalize ckVa p i = res at *
  obtain ⟨b, off, hoa, hc⟩ := h.vs i hi
  have hno := h.wf.nv
  have hwf := h.wf.vs _ (List.getElem_mem hi)
  obtain ⟨fa, fc, oa, oc, va, vc⟩ := A
  dsimp only at hoa
  subst hoa
  obtain ⟨c0, c1, c2⟩ := hc
  have hlt : b < w.heap.size := cell_lt2 c0
  obtain ⟨wk, hwk⟩ : ∃ W, W = ((w.alloc (.cells #[.slice fa p.fs.length fc, .slice oa p.os.length oc, .slice (some ⟨b, off, none⟩) p.vs.length vc] 26)).alloc (.cells #[sV (p.vs[i]).name, .int .i64 (p.vs[i]).init, .bool (p.vs[i]).atomic] 54)) := ⟨_, rfl⟩
  have BX := Lib.hid (show ∀ W, Ext wk W → (W.cell? ⟨w.heap.size, 0, none⟩ = some (.slice fa p.fs.length fc) ∧ W.cell? ⟨w.heap.size, 1, none⟩ = some (.slice oa p.os.length oc) ∧ W.cell? ⟨w.heap.size, 2, none⟩ = some (.slice (some ⟨b, off, none⟩) p.vs.length vc) ∧ W.cell? ⟨w.heap.size + 1, 0, none⟩ = some (sV (p.vs[i]).name) ∧ W.cell? ⟨w.heap.size + 1, 1, none⟩ = some (.int .i64 (p.vs[i]).init) ∧ W.cell? ⟨w.heap.size + 1, 2, none⟩ = some (.bool (p.vs[i]).atomic)) from fun W hW => by
    subst hwk
    have h0 := alloc_here w (.cells #[.slice fa p.fs.length fc, .slice oa p.os.length oc, .slice (some ⟨b, off, none⟩) p.vs.length vc] 26)
    have h0 := (Below.heap_alloc _ (.cells #[sV (p.vs[i]).name, .int .i64 (p.vs[i]).init, .bool (p.vs[i]).atomic] 54) _ (lt_of_block h0)).trans h0
    have k0 := (hW.below.block _ (lt_of_block h0)).trans h0
    have h1 := alloc_here (w.alloc (.cells #[.slice fa p.fs.length fc, .slice oa p.os.length oc, .slice (some ⟨b, off, none⟩) p.vs.length vc] 26)) (.cells #[sV (p.vs[i]).name, .int .i64 (p.vs[i]).init, .bool (p.vs[i]).atomic] 54)
    simp only [World.size_alloc] at h1
    have k1 := (hW.below.block _ (lt_of_block h1)).trans h1
    exact ⟨cell_of k0 rfl, cell_of k0 rfl, cell_of k0 rfl, cell_of k1 rfl, cell_of k1 rfl, cell_of k1 rfl⟩)
  have HW := Lib.hid (show Ext w wk by rw [hwk]; exact (ext_alloc (ext_alloc (Below.refl _ _) _) _))
  have HE0 := Lib.hid (show Ext wk wk from Below.refl _ _)
  have hnm := hwf.name
  clear h hwf
  dsimp only [PV]
  go_enter Tryz.func36, Tryz.ntmps36
  go_wp2_with fail
  rw [← hwk]
  clear hwk
  clear c0 c1 c2
  generalize (p.vs[i]).name = nm at *
  generalize (p.vs[i]).init = kd at *
  generalize (p.vs[i]).atomic = sz at *
  have hwl := HP.out.wf.no
  have hvc : i ≤ vc := by have h1 := HP.out.cv; dsimp only at h1; omega
  have KO := Lib.hid (fun (W0 : World) (hW0 : Ext wk W0) => show Gives Tryz.prog 80 #[.slice oa p.os.length oc, .func (.func 82) #[] #[.pointer (some ⟨w.heap.size + 1, 0, none⟩)]] W0 (.bool (p.os.any (fun x => x.name == nm))) from
    ContainsOb_any p.os oa oc 82 #[.pointer (some ⟨w.heap.size + 1, 0, none⟩)] (fun x => x.name == nm) W0 (HP.out.os.ext (Ext.trans HW.out hW0)) hwl (enters_fn Tryz.func82 (by kernel_rfl) rfl) (fun j hj W hW => by
      obtain ⟨d0_0, d0_1, d0_2, d1_0, d1_1, d1_2⟩ := BX.out W (Ext.trans hW0 hW)
      exact closVaOb _ _ _ _ _ _ W d1_0))
  have KF := Lib.hid (fun (W0 : World) (hW0 : Ext wk W0) => show Gives Tryz.prog 83 #[.slice (some ⟨b, off, none⟩) i vc, .func (.func 84) #[] #[.pointer (some ⟨w.heap.size + 1, 0, none⟩)]] W0 (.bool ((p.vs.take i).any (fun x => x.name == nm))) from by
    have := ContainsVa_any (p.vs.take i) (some ⟨b, off, none⟩) vc 84 #[.pointer (some ⟨w.heap.size + 1, 0, none⟩)] (fun x => x.name == nm) W0 ((HP.out.vs.ext (Ext.trans HW.out hW0)).take i) (by rw [List.length_take]; omega) (enters_fn Tryz.func84 (by kernel_rfl) rfl) (fun j hj W hW => by
      obtain ⟨d0_0, d0_1, d0_2, d1_0, d1_1, d1_2⟩ := BX.out W (Ext.trans hW0 hW)
      exact closVa _ _ _ _ _ W d1_0)
    rw [List.length_take, Nat.min_eq_left (by omega)] at this
    exact this)
  generalize ((p.vs.take i).any (fun x => x.name == nm)) = an at *
  generalize (p.os.any (fun x => x.name == nm)) = ao at *
  refine (isName_any _ _ hnm).mono ?_
  intro w1 hB
  have HE1 := Lib.hid (Ext.trans HE0.out hB)
  clear hB
  obtain ⟨d0_0, d0_1, d0_2, d1_0, d1_1, d1_2⟩ := BX.out _ HE1.out
  cases hb : isNm nm with
  | false =>
    go_wp2
    go_ret
    exact ⟨by rw [HCK.out, hb]; rfl, Ext.trans HW.out HE1.out⟩
  | true =>
    rw [hb, if_neg (by simp)] at HCK
    clear hb
    go_wp2_with fail
    clear d0_0 d0_1 d0_2 d1_0 d1_1 d1_2
    refine (within_any _ _ _ _).mono ?_
    rintro _ v1 ⟨rfl, hv1⟩
    rw [hv1]
    clear hv1 v1
    obtain ⟨d0_0, d0_1, d0_2, d1_0, d1_1, d1_2⟩ := BX.out _ HE1.out
    cases hb : inB kd (-1099511627776) 1099511627776 with
    | false =>
      go_wp2
      go_ret
      exact ⟨by rw [HCK.out, hb]; rfl, Ext.trans HW.out HE1.out⟩
    | true =>
      rw [hb, if_neg (by simp)] at HCK
      clear hb
      go_wp2_with fail
      clear d0_0 d0_1 d0_2 d1_0 d1_1 d1_2
      refine (KO.out _ HE1.out).mono ?_
      intro w2 hB
      have HE2 := Lib.hid (Ext.trans HE1.out hB)
      clear hB
      obtain ⟨d0_0, d0_1, d0_2, d1_0, d1_1, d1_2⟩ := BX.out _ HE2.out
      cases ao with
      | true =>
        go_wp2
        go_ret
        exact ⟨by rw [HCK.out]; rfl, Ext.trans HW.out HE2.out⟩
      | false =>
        rw [if_neg (by simp)] at HCK
        go_wp2_with fail
        clear d0_0 d0_1 d0_2 d1_0 d1_1 d1_2
        refine (KF.out _ HE2.out).mono ?_
        intro w3 hB
        have HE3 := Lib.hid (Ext.trans HE2.out hB)
        clear hB
        cases an with
        | true => go_wp2; go_ret; exact ⟨by rw [HCK.out]; rfl, Ext.trans HW.out HE3.out⟩
        | false => go_wp2; go_ret; exact ⟨by rw [HCK.out]; rfl, Ext.trans HW.out HE3.out⟩


/-- a checker: the program and the function -/
abbrev CKV (p : Pg) (A : PA) (f : Fn) (ca : Option Addr) (cc : Nat) : Value := .agg #[.slice A.fa p.fs.length A.fc, .slice A.oa p.os.length A.oc, .slice A.va p.vs.length A.vc, sV f.name, .int .i64 f.params, .int .i64 f.regs, .int .i64 f.prio, .bool f.cl, .slice ca f.code.length cc]
/-- a checker lies there, and its function may have instructions -/
structure CkAt (w : World) (p : Pg) (A : PA) (f : Fn) (ca : Option Addr) : Prop where
  pg : PgAt w p A
  code : InsRow w ca f.code
  fwf : f.wf
  regs : 0 ≤ f.regs ∧ f.regs ≤ 32
theorem CkAt.ext {w W : World} {p : Pg} {A : PA} {f : Fn} {ca : Option Addr} (h : CkAt w p A f ca) (hE : Ext w W) : CkAt W p A f ca := ⟨h.pg.ext hE, h.code.ext hE, h.fwf, h.regs⟩
set_option maxHeartbeats 1000000 in
theorem register_any (p : Pg) (A : PA) (f : Fn) (ca : Option Addr) (cc : Nat) (n : Int) (w : World) (hr : 0 ≤ f.regs ∧ f.regs ≤ 32) : Gives Tryz.prog 140 #[CKV p A f ca cc, .int .i64 n] w (.bool (inB n 0 (f.regs - 1))) := by
  obtain ⟨hr1, hr2⟩ := hr
  unfold Gives
  obtain ⟨fa, fc, oa, oc, va, vc⟩ := A
  dsimp only [CKV]
  have K := fun W => within_any n 0 (f.regs - 1) W
  generalize f.regs = rg at *
  go_enter Tryz.func140, Tryz.ntmps140
  go_wp2_with fail
  refine (K _).mono ?_
  rintro _ v1 ⟨rfl, hv1⟩
  rw [hv1]
  clear hv1 v1
  go_wp2
  go_ret
  exact ⟨rfl, ext_alloc (Below.refl _ _) _⟩
set_option maxHeartbeats 1000000 in
theorem closReg (p : Pg) (A : PA) (f : Fn) (ca : Option Addr) (cc : Nat) (n : Int) (g : Nat) (w : World) (hr : 0 ≤ f.regs ∧ f.regs ≤ 32)
    (hg : w.heap[g]? = some (.cells #[.slice A.fa p.fs.length A.fc, .slice A.oa p.os.length A.oc, .slice A.va p.vs.length A.vc, sV f.name, .int .i64 f.params, .int .i64 f.regs, .int .i64 f.prio, .bool f.cl, .slice ca f.code.length cc] 142 (0, 0))) :
    Gives Tryz.prog 139 #[.int .i64 n, .pointer (some ⟨g, 0, none⟩)] w (.bool (regOut f n)) := by
  have K := Lib.hid (fun W => register_any p A f ca cc n W hr)
  unfold Gives
  obtain ⟨fa, fc, oa, oc, va, vc⟩ := A
  dsimp only [CKV] at K
  have d0 := cell_of hg (i := 0) rfl
  have d1 := cell_of hg (i := 1) rfl
  have d2 := cell_of hg (i := 2) rfl
  have d3 := cell_of hg (i := 3) rfl
  have d4 := cell_of hg (i := 4) rfl
  have d5 := cell_of hg (i := 5) rfl
  have d6 := cell_of hg (i := 6) rfl
  have d7 := cell_of hg (i := 7) rfl
  have d8 := cell_of hg (i := 8) rfl
  clear hg
  dsimp only at d0 d1 d2
  unfold regOut
  go_enter Tryz.func139, Tryz.ntmps139
  go_wp2_with fail
  refine (K.out _).mono ?_
  intro w1 hB
  go_wp2
  go_ret
  exact ⟨rfl, hB⟩

end Go.Proofs.YtfkjokbhnblndaaGreatDoor
