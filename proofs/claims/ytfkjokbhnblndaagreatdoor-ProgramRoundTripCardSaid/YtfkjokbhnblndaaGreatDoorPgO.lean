/- checkFunc, Check. -/
import Derived.Test.YtfkjokbhnblndaaGreatDoorPgM
namespace Go.Proofs.YtfkjokbhnblndaaGreatDoor
open Go.RowKit
set_option linter.unusedVariables false
set_option linter.unusedSimpArgs false

theorem instr_any (p : Pg) (A : PA) (f : Fn) (ca : Option Addr) (cc : Nat) (x : Ins) (a : Option Addr) (c : Nat) (w : World) (h : CkAt w p A f ca) (hx : x.wf) (hI : IntsAt w a x.args) (hcap : x.args.length ≤ c) :
    Gives Tryz.prog 87 #[CKV p A f ca cc, IV x a c] w (.int .i64 (ckIns p f x)) := by
  cases hs : shp x.op with
  | none => exact instr_none p A f ca cc x a c w h hx hI hcap hs
  | some s => exact instr_some p A f ca cc x a c w h hx hI hcap s hs
theorem ckFn_at (p : Pg) (i : Nat) (hi : i < p.fs.length) : ckFn p i = (if isNm (p.fs[i]).name = false then 5
    else if (p.fs.take i).any (fun x => x.name == (p.fs[i]).name) then 6
    else if inB (p.fs[i]).params 0 8 = false ∨ inB (p.fs[i]).regs (p.fs[i]).params 32 = false ∨ inB (p.fs[i]).prio 0 9 = false ∨ ((p.fs[i]).cl = true ∧ (p.fs[i]).prio ≠ 0) then 2
    else if (p.fs[i]).code.length > 200 then 4
    else if i = 0 ∧ ((p.fs[i]).params > 0 ∨ (p.fs[i]).cl = true) then 16
    else fstE (fun k => ckIns p (p.fs[i]) (insAt (p.fs[i]) k)) (p.fs[i]).code.length) := by
  unfold ckFn
  rw [List.getElem?_eq_getElem hi]

set_option maxRecDepth 100000 in
set_option maxHeartbeats 8000000 in
theorem checkFunc_any (p : Pg) (A : PA) (i : Nat) (w : World) (h : PgAt w p A) (hi : i < p.fs.length) : Gives Tryz.prog 37 #[PV p A, .int .i64 (i : Int)] w (.int .i64 (ckFn p i)) := by
  unfold Gives
  have HP := Lib.hid h
  have HCK := Lib.hid (ckFn_at p i hi)
  generalize ckFn p i = res at *
  obtain ⟨b, off, ca, cc, hoa, ⟨c0, c1, c2, c3, c4, c5⟩, hcode⟩ := h.fs i hi
  have hno := h.wf.nf
  have hwf := h.wf.fs _ (List.getElem_mem hi)
  obtain ⟨fa, fc, oa, oc, va, vc⟩ := A
  dsimp only at hoa
  subst hoa
  have hlt : b < w.heap.size := cell_lt2 c0
  obtain ⟨wk, hwk⟩ : ∃ W, W = ((w.alloc (.cells #[.slice (some ⟨b, off, none⟩) p.fs.length fc, .slice oa p.os.length oc, .slice va p.vs.length vc] 26)).alloc (.cells #[sV (p.fs[i]).name, .int .i64 (p.fs[i]).params, .int .i64 (p.fs[i]).regs, .int .i64 (p.fs[i]).prio, .bool (p.fs[i]).cl, .slice ca (p.fs[i]).code.length cc] 47)) := ⟨_, rfl⟩
  have BX := Lib.hid (show ∀ W, Ext wk W → (W.cell? ⟨w.heap.size, 0, none⟩ = some (.slice (some ⟨b, off, none⟩) p.fs.length fc) ∧ W.cell? ⟨w.heap.size, 1, none⟩ = some (.slice oa p.os.length oc) ∧ W.cell? ⟨w.heap.size, 2, none⟩ = some (.slice va p.vs.length vc) ∧ W.cell? ⟨w.heap.size + 1, 0, none⟩ = some (sV (p.fs[i]).name) ∧ W.cell? ⟨w.heap.size + 1, 1, none⟩ = some (.int .i64 (p.fs[i]).params) ∧ W.cell? ⟨w.heap.size + 1, 2, none⟩ = some (.int .i64 (p.fs[i]).regs) ∧ W.cell? ⟨w.heap.size + 1, 3, none⟩ = some (.int .i64 (p.fs[i]).prio) ∧ W.cell? ⟨w.heap.size + 1, 4, none⟩ = some (.bool (p.fs[i]).cl) ∧ W.cell? ⟨w.heap.size + 1, 5, none⟩ = some (.slice ca (p.fs[i]).code.length cc)) from fun W hW => by
    subst hwk
    have h0 := alloc_here w (.cells #[.slice (some ⟨b, off, none⟩) p.fs.length fc, .slice oa p.os.length oc, .slice va p.vs.length vc] 26)
    have h0 := (Below.heap_alloc _ (.cells #[sV (p.fs[i]).name, .int .i64 (p.fs[i]).params, .int .i64 (p.fs[i]).regs, .int .i64 (p.fs[i]).prio, .bool (p.fs[i]).cl, .slice ca (p.fs[i]).code.length cc] 47) _ (lt_of_block h0)).trans h0
    have k0 := (hW.below.block _ (lt_of_block h0)).trans h0
    have h1 := alloc_here (w.alloc (.cells #[.slice (some ⟨b, off, none⟩) p.fs.length fc, .slice oa p.os.length oc, .slice va p.vs.length vc] 26)) (.cells #[sV (p.fs[i]).name, .int .i64 (p.fs[i]).params, .int .i64 (p.fs[i]).regs, .int .i64 (p.fs[i]).prio, .bool (p.fs[i]).cl, .slice ca (p.fs[i]).code.length cc] 47)
    simp only [World.size_alloc] at h1
    have k1 := (hW.below.block _ (lt_of_block h1)).trans h1
    exact ⟨cell_of k0 rfl, cell_of k0 rfl, cell_of k0 rfl, cell_of k1 rfl, cell_of k1 rfl, cell_of k1 rfl, cell_of k1 rfl, cell_of k1 rfl, cell_of k1 rfl⟩)
  have HWZ := Lib.hid (show wk.heap.size = w.heap.size + 2 by rw [hwk]; simp)
  have HW := Lib.hid (show Ext w wk by rw [hwk]; exact (ext_alloc (ext_alloc (Below.refl _ _) _) _))
  have HE0 := Lib.hid (show Ext wk wk from Below.refl _ _)
  have hnm := hwf.name
  have hcl := hwf.len
  have hfc : i ≤ fc := by have h1 := HP.out.cf; dsimp only at h1; omega
  have KF := Lib.hid (fun (W0 : World) (hW0 : Ext wk W0) => show Gives Tryz.prog 85 #[.slice (some ⟨b, off, none⟩) i fc, .func (.func 86) #[] #[.pointer (some ⟨w.heap.size + 1, 0, none⟩)]] W0 (.bool ((p.fs.take i).any (fun x => x.name == (p.fs[i]).name))) from by
    have := ContainsFn_any (p.fs.take i) (some ⟨b, off, none⟩) fc 86 #[.pointer (some ⟨w.heap.size + 1, 0, none⟩)] (fun x => x.name == (p.fs[i]).name) W0 ((HP.out.fs.ext (Ext.trans HW.out hW0)).take i) (by rw [List.length_take]; omega) (enters_fn Tryz.func86 (by kernel_rfl) rfl) (fun j hj ca' cc' W hW _ => by
      obtain ⟨d0_0, d0_1, d0_2, d1_0, d1_1, d1_2, d1_3, d1_4, d1_5⟩ := BX.out W (Ext.trans hW0 hW)
      exact closFn _ _ _ _ _ _ _ _ _ _ W d1_0)
    rw [List.length_take, Nat.min_eq_left (by omega)] at this
    exact this)
  have HCODE := Lib.hid hcode
  have HWF := Lib.hid hwf
  have KI := Lib.hid (fun (hr : 0 ≤ (p.fs[i]).regs ∧ (p.fs[i]).regs ≤ 32) (k : Nat) (hk : k < (p.fs[i]).code.length) (a : Option Addr) (c : Nat) (W : World) (hW : Ext w W) (hI : IntsAt W a ((p.fs[i]).code[k]).args) (hcap : ((p.fs[i]).code[k]).args.length ≤ c) =>
    instr_any p ⟨some ⟨b, off, none⟩, fc, oa, oc, va, vc⟩ (p.fs[i]) ca cc ((p.fs[i]).code[k]) a c W ⟨HP.out.ext hW, HCODE.out.ext hW, HWF.out, hr⟩ (HWF.out.code _ (List.getElem_mem hk)) hI hcap)
  dsimp only [CKV, IV] at KI
  have HIN := Lib.hid (fun (k : Nat) (hk : k < (p.fs[i]).code.length) => show insAt (p.fs[i]) k = (p.fs[i]).code[k] by unfold insAt; rw [List.getD_eq_getElem?_getD, List.getElem?_eq_getElem hk]; rfl)
  clear h hwf hcode
  dsimp only [PV]
  generalize p.fs[i] = fn at *
  go_enter Tryz.func37, Tryz.ntmps37
  go_wp2_with fail
  rw [← hwk]
  clear hwk
  clear c0 c1 c2 c3 c4 c5
  refine (isName_any _ _ hnm).mono ?_
  intro w1 hB
  have HE1 := Lib.hid (Ext.trans HE0.out hB)
  clear hB
  obtain ⟨d0_0, d0_1, d0_2, d1_0, d1_1, d1_2, d1_3, d1_4, d1_5⟩ := BX.out _ HE1.out
  cases hb : isNm fn.name with
  | false =>
    go_wp2
    go_ret
    exact ⟨by rw [HCK.out, hb]; rfl, Ext.trans HW.out HE1.out⟩
  | true =>
    rw [hb, if_neg (by simp)] at HCK
    clear hb
    go_wp2_with fail
    clear d0_0 d0_1 d0_2 d1_0 d1_1 d1_2 d1_3 d1_4 d1_5
    refine (KF.out _ HE1.out).mono ?_
    intro w2 hB
    have HE2 := Lib.hid (Ext.trans HE1.out hB)
    clear hB
    obtain ⟨d0_0, d0_1, d0_2, d1_0, d1_1, d1_2, d1_3, d1_4, d1_5⟩ := BX.out _ HE2.out
    cases hb : (p.fs.take i).any (fun x => x.name == fn.name) with
    | true =>
      go_wp2
      go_ret
      exact ⟨by rw [HCK.out, hb]; rfl, Ext.trans HW.out HE2.out⟩
    | false =>
      rw [hb, if_neg (by simp)] at HCK
      clear hb
      go_wp2_with fail
      clear d0_0 d0_1 d0_2 d1_0 d1_1 d1_2 d1_3 d1_4 d1_5
      refine (within_any fn.params 0 8 _).mono ?_
      rintro _ v1 ⟨rfl, hv1⟩
      rw [hv1]
      clear hv1 v1
      obtain ⟨d0_0, d0_1, d0_2, d1_0, d1_1, d1_2, d1_3, d1_4, d1_5⟩ := BX.out _ HE2.out
      cases hb : inB fn.params 0 8 with
      | false =>
        go_wp2
        go_ret
        exact ⟨by rw [HCK.out, if_pos (by simp [hb])]; rfl, Ext.trans HW.out HE2.out⟩
      | true =>
        rw [hb] at HCK
        have hb1 := hb
        clear hb
        go_wp2_with fail
        clear d0_0 d0_1 d0_2 d1_0 d1_1 d1_2 d1_3 d1_4 d1_5
        refine (within_any fn.regs fn.params 32 _).mono ?_
        rintro _ v1 ⟨rfl, hv1⟩
        rw [hv1]
        clear hv1 v1
        obtain ⟨d0_0, d0_1, d0_2, d1_0, d1_1, d1_2, d1_3, d1_4, d1_5⟩ := BX.out _ HE2.out
        cases hb : inB fn.regs fn.params 32 with
        | false =>
          go_wp2
          go_ret
          exact ⟨by rw [HCK.out, if_pos (by simp [hb])]; rfl, Ext.trans HW.out HE2.out⟩
        | true =>
          rw [hb] at HCK
          have hb2 := hb
          clear hb
          go_wp2_with fail
          clear d0_0 d0_1 d0_2 d1_0 d1_1 d1_2 d1_3 d1_4 d1_5
          refine (within_any fn.prio 0 9 _).mono ?_
          rintro _ v1 ⟨rfl, hv1⟩
          rw [hv1]
          clear hv1 v1
          obtain ⟨d0_0, d0_1, d0_2, d1_0, d1_1, d1_2, d1_3, d1_4, d1_5⟩ := BX.out _ HE2.out
          cases hb : inB fn.prio 0 9 with
          | false =>
            go_wp2
            go_ret
            exact ⟨by rw [HCK.out, if_pos (by simp [hb])]; rfl, Ext.trans HW.out HE2.out⟩
          | true =>
            rw [hb] at HCK
            clear hb
            have hregs : 0 ≤ fn.regs ∧ fn.regs ≤ 32 := by
              simp [inB] at hb1 hb2; omega
            have hpar : 0 ≤ fn.params := by simp [inB] at hb1; omega
            have KI := Lib.hid (KI.out hregs)
            clear hb1 hb2 hregs
            generalize fn.cl = fcl at *
            cases fcl with
            | true =>
              by_cases hp0 : fn.prio = 0
              · rw [if_neg (by simp [hp0])] at HCK
                have hpb : (fn.prio != 0) = false := by rw [hp0]; rfl
                clear hp0
                by_cases h200 : fn.code.length > 200
                · rw [if_pos h200] at HCK
                  have g200 : (200 : Int) < fn.code.length := by omega
                  go_wp2
                  go_ret
                  exact ⟨by rw [HCK.out]; rfl, Ext.trans HW.out HE2.out⟩
                · rw [if_neg h200] at HCK
                  have g200 : ¬ (200 : Int) < fn.code.length := by omega
                  by_cases hi0 : i = 0
                  · subst hi0
                    rw [if_pos ⟨rfl, .inr rfl⟩] at HCK
                    by_cases hpa : (0 : Int) < fn.params
                    · go_wp2
                      go_ret
                      exact ⟨by rw [HCK.out]; rfl, Ext.trans HW.out HE2.out⟩
                    · go_wp2
                      go_ret
                      exact ⟨by rw [HCK.out]; rfl, Ext.trans HW.out HE2.out⟩
                  · rw [if_neg (fun h => hi0 h.1)] at HCK
                    have hib : ((i : Int) == 0) = false := by rw [beq_eq_false_iff_ne]; omega
                    obtain ⟨wl, hwl⟩ : ∃ W, W = w2.alloc (.cells #[.slice (some ⟨b, off, none⟩) p.fs.length fc, .slice oa p.os.length oc, .slice va p.vs.length vc, sV fn.name, .int .i64 fn.params, .int .i64 fn.regs, .int .i64 fn.prio, .bool true, .slice ca fn.code.length cc] 142) := ⟨_, rfl⟩
                    have HEl := Lib.hid (show Ext w2 wl by rw [hwl]; exact ext_alloc (Below.refl _ _) _)
                    have hb9 : wl.heap[w2.heap.size]? = some (.cells #[.slice (some ⟨b, off, none⟩) p.fs.length fc, .slice oa p.os.length oc, .slice va p.vs.length vc, sV fn.name, .int .i64 fn.params, .int .i64 fn.regs, .int .i64 fn.prio, .bool true, .slice ca fn.code.length cc] 142 (0, 0)) := by rw [hwl]; exact alloc_here _ _
                    have BL := Lib.hid (fun W (hW : Ext wl W) => show W.cell? ⟨w2.heap.size, 0, none⟩ = some (.slice (some ⟨b, off, none⟩) p.fs.length fc) ∧ W.cell? ⟨w2.heap.size, 1, none⟩ = some (.slice oa p.os.length oc) ∧ W.cell? ⟨w2.heap.size, 2, none⟩ = some (.slice va p.vs.length vc) ∧ W.cell? ⟨w2.heap.size, 3, none⟩ = some (sV fn.name) ∧ W.cell? ⟨w2.heap.size, 4, none⟩ = some (.int .i64 fn.params) ∧ W.cell? ⟨w2.heap.size, 5, none⟩ = some (.int .i64 fn.regs) ∧ W.cell? ⟨w2.heap.size, 6, none⟩ = some (.int .i64 fn.prio) ∧ W.cell? ⟨w2.heap.size, 7, none⟩ = some (.bool true) ∧ W.cell? ⟨w2.heap.size, 8, none⟩ = some (.slice ca fn.code.length cc) from by
                      have k := (hW.below.block _ (lt_of_block hb9)).trans hb9
                      exact ⟨cell_of k rfl, cell_of k rfl, cell_of k rfl, cell_of k rfl, cell_of k rfl, cell_of k rfl, cell_of k rfl, cell_of k rfl, cell_of k rfl⟩)
                    have HWL := Lib.hid (Ext.trans HW.out (Ext.trans HE2.out HEl.out))
                    have hl0 : w.heap.size < w2.heap.size := by have := HE2.out.size; have := HWZ.out; omega
                    have hl1 : w.heap.size + 1 < w2.heap.size := by have := HE2.out.size; have := HWZ.out; omega
                    clear hb9
                    go_wp2_with fail
                    rw [← hwl]
                    clear hwl d0_0 d0_1 d0_2 d1_0 d1_1 d1_2 d1_3 d1_4 d1_5
                    go_loopw [78] (fun i wr => ∃ k : Nat, k ≤ fn.code.length ∧ i = .int .i64 k ∧ fstE (fun k => ckIns p fn (insAt fn k)) k = 0 ∧ Ext wl wr) (fun i _ => fn.code.length - (intOf i).toNat)
                    case atStart => exact ⟨0, Nat.zero_le _, rfl, rfl, Below.refl _ _⟩
                    case round =>
                      obtain ⟨k, hk, rfl, he, hE⟩ := hrel
                      have HE := Lib.hid hE
                      have HF := Lib.hid he
                      clear he
                      by_cases hlk : k < fn.code.length
                      · obtain ⟨b', o', a', c', rfl, ⟨i0, i1, i2, i3, i4⟩, hI, hcap⟩ := (HCODE.out.ext (Ext.trans HWL.out hE)) k hlk
                        have hbl := cell_lt2 i0
                        obtain ⟨w5, hw5⟩ : ∃ W, W = wr.alloc (.cells #[.int .i64 (fn.code[k]).op, .int .i64 (fn.code[k]).a, .int .i64 (fn.code[k]).b, .int .i64 (fn.code[k]).c, .slice a' (fn.code[k]).args.length c'] 50) := ⟨_, rfl⟩
                        have hE5 : Ext wr w5 := by rw [hw5]; exact ext_alloc (Below.refl _ _) _
                        have HE5 := Lib.hid (Ext.trans hE hE5)
                        have K := Lib.hid (KI.out k hlk a' c' w5 (Ext.trans HWL.out HE5.out) (hI.below hE5) hcap)
                        obtain ⟨z0, z1, z2, z3, z4, z5, z6, z7, z8⟩ := BL.out wr hE
                        have hlw : w2.heap.size < wr.heap.size := cell_lt2 z0
                        have HST := Lib.hid (fun h : fstE (fun k => ckIns p fn (insAt fn k)) k = 0 => show fstE (fun k => ckIns p fn (insAt fn k)) (k + 1) = ckIns p fn (fn.code[k]) from by rw [fstE_step h]; simp only [HIN.out k hlk])
                        have HSP := Lib.hid (fun h : ckIns p fn (fn.code[k]) ≠ 0 => show res = ckIns p fn (fn.code[k]) from by
                          rw [HCK.out]
                          have := fstE_stop (f := fun k => ckIns p fn (insAt fn k)) (j := k) HF.out (by simp only [HIN.out k hlk]; exact h) hlk
                          rw [this]; simp only [HIN.out k hlk])
                        generalize ckIns p fn (fn.code[k]) = ie at *
                        generalize (fn.code[k]).op = io at *
                        generalize (fn.code[k]).a = ia at *
                        generalize (fn.code[k]).b = ib at *
                        generalize (fn.code[k]).c = ic at *
                        generalize (fn.code[k]).args.length = il at *
                        clear hE hE5 hI hcap
                        go_wp2_with fail
                        rw [← hw5]
                        clear hw5 i0 i1 i2 i3 i4 z0 z1 z2 z3 z4 z5 z6 z7 z8
                        refine K.out.mono ?_
                        intro w6 hB
                        have HE6 := Lib.hid (Ext.trans HE5.out hB)
                        clear hB
                        by_cases hie : ie = 0
                        · have HS := Lib.hid (show fstE (fun k => ckIns p fn (insAt fn k)) (k + 1) = 0 by rw [HST.out HF.out, hie])
                          rw [hie]
                          clear hie
                          go_wp2
                          go_roundw
                          case rel => exact ⟨k + 1, by omega, by go_num, HS.out, HE6.out⟩
                          case measure => simp [intOf]; omega
                        · have HR := Lib.hid (HSP.out hie)
                          have hie' : (ie != 0) = true := by rw [bne_iff_ne]; exact hie
                          clear hie
                          go_wp2
                          go_ret
                          exact ⟨by rw [HR.out]; rfl, Ext.trans HWL.out HE6.out⟩
                      · obtain rfl : k = fn.code.length := by omega
                        have HR := Lib.hid (show res = 0 by rw [HCK.out, HF.out])
                        clear hE
                        go_wp2
                        go_ret
                        exact ⟨by rw [HR.out]; rfl, Ext.trans HWL.out HE.out⟩
              · have hpb : (fn.prio != 0) = true := by rw [bne_iff_ne]; exact hp0
                rw [if_pos (by simp [hp0])] at HCK
                go_wp2
                go_ret
                exact ⟨by rw [HCK.out]; rfl, Ext.trans HW.out HE2.out⟩
            | false =>
              rw [if_neg (by simp)] at HCK
              by_cases h200 : fn.code.length > 200
              · rw [if_pos h200] at HCK
                have g200 : (200 : Int) < fn.code.length := by omega
                go_wp2
                go_ret
                exact ⟨by rw [HCK.out]; rfl, Ext.trans HW.out HE2.out⟩
              · rw [if_neg h200] at HCK
                have g200 : ¬ (200 : Int) < fn.code.length := by omega
                by_cases hi0 : i = 0
                · by_cases hpa : (0 : Int) < fn.params
                  · rw [if_pos ⟨hi0, .inl hpa⟩] at HCK
                    subst hi0
                    go_wp2
                    go_ret
                    exact ⟨by rw [HCK.out]; rfl, Ext.trans HW.out HE2.out⟩
                  · rw [if_neg (fun h => h.2.elim hpa (by simp))] at HCK
                    have hib : ((i : Int) == 0) = true := by rw [beq_iff_eq]; omega
                    obtain ⟨wl, hwl⟩ : ∃ W, W = w2.alloc (.cells #[.slice (some ⟨b, off, none⟩) p.fs.length fc, .slice oa p.os.length oc, .slice va p.vs.length vc, sV fn.name, .int .i64 fn.params, .int .i64 fn.regs, .int .i64 fn.prio, .bool false, .slice ca fn.code.length cc] 142) := ⟨_, rfl⟩
                    have HEl := Lib.hid (show Ext w2 wl by rw [hwl]; exact ext_alloc (Below.refl _ _) _)
                    have hb9 : wl.heap[w2.heap.size]? = some (.cells #[.slice (some ⟨b, off, none⟩) p.fs.length fc, .slice oa p.os.length oc, .slice va p.vs.length vc, sV fn.name, .int .i64 fn.params, .int .i64 fn.regs, .int .i64 fn.prio, .bool false, .slice ca fn.code.length cc] 142 (0, 0)) := by rw [hwl]; exact alloc_here _ _
                    have BL := Lib.hid (fun W (hW : Ext wl W) => show W.cell? ⟨w2.heap.size, 0, none⟩ = some (.slice (some ⟨b, off, none⟩) p.fs.length fc) ∧ W.cell? ⟨w2.heap.size, 1, none⟩ = some (.slice oa p.os.length oc) ∧ W.cell? ⟨w2.heap.size, 2, none⟩ = some (.slice va p.vs.length vc) ∧ W.cell? ⟨w2.heap.size, 3, none⟩ = some (sV fn.name) ∧ W.cell? ⟨w2.heap.size, 4, none⟩ = some (.int .i64 fn.params) ∧ W.cell? ⟨w2.heap.size, 5, none⟩ = some (.int .i64 fn.regs) ∧ W.cell? ⟨w2.heap.size, 6, none⟩ = some (.int .i64 fn.prio) ∧ W.cell? ⟨w2.heap.size, 7, none⟩ = some (.bool false) ∧ W.cell? ⟨w2.heap.size, 8, none⟩ = some (.slice ca fn.code.length cc) from by
                      have k := (hW.below.block _ (lt_of_block hb9)).trans hb9
                      exact ⟨cell_of k rfl, cell_of k rfl, cell_of k rfl, cell_of k rfl, cell_of k rfl, cell_of k rfl, cell_of k rfl, cell_of k rfl, cell_of k rfl⟩)
                    have HWL := Lib.hid (Ext.trans HW.out (Ext.trans HE2.out HEl.out))
                    have hl0 : w.heap.size < w2.heap.size := by have := HE2.out.size; have := HWZ.out; omega
                    have hl1 : w.heap.size + 1 < w2.heap.size := by have := HE2.out.size; have := HWZ.out; omega
                    clear hb9
                    go_wp2_with fail
                    rw [← hwl]
                    clear hwl d0_0 d0_1 d0_2 d1_0 d1_1 d1_2 d1_3 d1_4 d1_5
                    go_loopw [78] (fun i wr => ∃ k : Nat, k ≤ fn.code.length ∧ i = .int .i64 k ∧ fstE (fun k => ckIns p fn (insAt fn k)) k = 0 ∧ Ext wl wr) (fun i _ => fn.code.length - (intOf i).toNat)
                    case atStart => exact ⟨0, Nat.zero_le _, rfl, rfl, Below.refl _ _⟩
                    case round =>
                      obtain ⟨k, hk, rfl, he, hE⟩ := hrel
                      have HE := Lib.hid hE
                      have HF := Lib.hid he
                      clear he
                      by_cases hlk : k < fn.code.length
                      · obtain ⟨b', o', a', c', rfl, ⟨i0, i1, i2, i3, i4⟩, hI, hcap⟩ := (HCODE.out.ext (Ext.trans HWL.out hE)) k hlk
                        have hbl := cell_lt2 i0
                        obtain ⟨w5, hw5⟩ : ∃ W, W = wr.alloc (.cells #[.int .i64 (fn.code[k]).op, .int .i64 (fn.code[k]).a, .int .i64 (fn.code[k]).b, .int .i64 (fn.code[k]).c, .slice a' (fn.code[k]).args.length c'] 50) := ⟨_, rfl⟩
                        have hE5 : Ext wr w5 := by rw [hw5]; exact ext_alloc (Below.refl _ _) _
                        have HE5 := Lib.hid (Ext.trans hE hE5)
                        have K := Lib.hid (KI.out k hlk a' c' w5 (Ext.trans HWL.out HE5.out) (hI.below hE5) hcap)
                        obtain ⟨z0, z1, z2, z3, z4, z5, z6, z7, z8⟩ := BL.out wr hE
                        have hlw : w2.heap.size < wr.heap.size := cell_lt2 z0
                        have HST := Lib.hid (fun h : fstE (fun k => ckIns p fn (insAt fn k)) k = 0 => show fstE (fun k => ckIns p fn (insAt fn k)) (k + 1) = ckIns p fn (fn.code[k]) from by rw [fstE_step h]; simp only [HIN.out k hlk])
                        have HSP := Lib.hid (fun h : ckIns p fn (fn.code[k]) ≠ 0 => show res = ckIns p fn (fn.code[k]) from by
                          rw [HCK.out]
                          have := fstE_stop (f := fun k => ckIns p fn (insAt fn k)) (j := k) HF.out (by simp only [HIN.out k hlk]; exact h) hlk
                          rw [this]; simp only [HIN.out k hlk])
                        generalize ckIns p fn (fn.code[k]) = ie at *
                        generalize (fn.code[k]).op = io at *
                        generalize (fn.code[k]).a = ia at *
                        generalize (fn.code[k]).b = ib at *
                        generalize (fn.code[k]).c = ic at *
                        generalize (fn.code[k]).args.length = il at *
                        clear hE hE5 hI hcap
                        go_wp2_with fail
                        rw [← hw5]
                        clear hw5 i0 i1 i2 i3 i4 z0 z1 z2 z3 z4 z5 z6 z7 z8
                        refine K.out.mono ?_
                        intro w6 hB
                        have HE6 := Lib.hid (Ext.trans HE5.out hB)
                        clear hB
                        by_cases hie : ie = 0
                        · have HS := Lib.hid (show fstE (fun k => ckIns p fn (insAt fn k)) (k + 1) = 0 by rw [HST.out HF.out, hie])
                          rw [hie]
                          clear hie
                          go_wp2
                          go_roundw
                          case rel => exact ⟨k + 1, by omega, by go_num, HS.out, HE6.out⟩
                          case measure => simp [intOf]; omega
                        · have HR := Lib.hid (HSP.out hie)
                          have hie' : (ie != 0) = true := by rw [bne_iff_ne]; exact hie
                          clear hie
                          go_wp2
                          go_ret
                          exact ⟨by rw [HR.out]; rfl, Ext.trans HWL.out HE6.out⟩
                      · obtain rfl : k = fn.code.length := by omega
                        have HR := Lib.hid (show res = 0 by rw [HCK.out, HF.out])
                        clear hE
                        go_wp2
                        go_ret
                        exact ⟨by rw [HR.out]; rfl, Ext.trans HWL.out HE.out⟩
                · rw [if_neg (fun h => hi0 h.1)] at HCK
                  have hib : ((i : Int) == 0) = false := by rw [beq_eq_false_iff_ne]; omega
                  obtain ⟨wl, hwl⟩ : ∃ W, W = w2.alloc (.cells #[.slice (some ⟨b, off, none⟩) p.fs.length fc, .slice oa p.os.length oc, .slice va p.vs.length vc, sV fn.name, .int .i64 fn.params, .int .i64 fn.regs, .int .i64 fn.prio, .bool false, .slice ca fn.code.length cc] 142) := ⟨_, rfl⟩
                  have HEl := Lib.hid (show Ext w2 wl by rw [hwl]; exact ext_alloc (Below.refl _ _) _)
                  have hb9 : wl.heap[w2.heap.size]? = some (.cells #[.slice (some ⟨b, off, none⟩) p.fs.length fc, .slice oa p.os.length oc, .slice va p.vs.length vc, sV fn.name, .int .i64 fn.params, .int .i64 fn.regs, .int .i64 fn.prio, .bool false, .slice ca fn.code.length cc] 142 (0, 0)) := by rw [hwl]; exact alloc_here _ _
                  have BL := Lib.hid (fun W (hW : Ext wl W) => show W.cell? ⟨w2.heap.size, 0, none⟩ = some (.slice (some ⟨b, off, none⟩) p.fs.length fc) ∧ W.cell? ⟨w2.heap.size, 1, none⟩ = some (.slice oa p.os.length oc) ∧ W.cell? ⟨w2.heap.size, 2, none⟩ = some (.slice va p.vs.length vc) ∧ W.cell? ⟨w2.heap.size, 3, none⟩ = some (sV fn.name) ∧ W.cell? ⟨w2.heap.size, 4, none⟩ = some (.int .i64 fn.params) ∧ W.cell? ⟨w2.heap.size, 5, none⟩ = some (.int .i64 fn.regs) ∧ W.cell? ⟨w2.heap.size, 6, none⟩ = some (.int .i64 fn.prio) ∧ W.cell? ⟨w2.heap.size, 7, none⟩ = some (.bool false) ∧ W.cell? ⟨w2.heap.size, 8, none⟩ = some (.slice ca fn.code.length cc) from by
                    have k := (hW.below.block _ (lt_of_block hb9)).trans hb9
                    exact ⟨cell_of k rfl, cell_of k rfl, cell_of k rfl, cell_of k rfl, cell_of k rfl, cell_of k rfl, cell_of k rfl, cell_of k rfl, cell_of k rfl⟩)
                  have HWL := Lib.hid (Ext.trans HW.out (Ext.trans HE2.out HEl.out))
                  have hl0 : w.heap.size < w2.heap.size := by have := HE2.out.size; have := HWZ.out; omega
                  have hl1 : w.heap.size + 1 < w2.heap.size := by have := HE2.out.size; have := HWZ.out; omega
                  clear hb9
                  go_wp2_with fail
                  rw [← hwl]
                  clear hwl d0_0 d0_1 d0_2 d1_0 d1_1 d1_2 d1_3 d1_4 d1_5
                  go_loopw [78] (fun i wr => ∃ k : Nat, k ≤ fn.code.length ∧ i = .int .i64 k ∧ fstE (fun k => ckIns p fn (insAt fn k)) k = 0 ∧ Ext wl wr) (fun i _ => fn.code.length - (intOf i).toNat)
                  case atStart => exact ⟨0, Nat.zero_le _, rfl, rfl, Below.refl _ _⟩
                  case round =>
                    obtain ⟨k, hk, rfl, he, hE⟩ := hrel
                    have HE := Lib.hid hE
                    have HF := Lib.hid he
                    clear he
                    by_cases hlk : k < fn.code.length
                    · obtain ⟨b', o', a', c', rfl, ⟨i0, i1, i2, i3, i4⟩, hI, hcap⟩ := (HCODE.out.ext (Ext.trans HWL.out hE)) k hlk
                      have hbl := cell_lt2 i0
                      obtain ⟨w5, hw5⟩ : ∃ W, W = wr.alloc (.cells #[.int .i64 (fn.code[k]).op, .int .i64 (fn.code[k]).a, .int .i64 (fn.code[k]).b, .int .i64 (fn.code[k]).c, .slice a' (fn.code[k]).args.length c'] 50) := ⟨_, rfl⟩
                      have hE5 : Ext wr w5 := by rw [hw5]; exact ext_alloc (Below.refl _ _) _
                      have HE5 := Lib.hid (Ext.trans hE hE5)
                      have K := Lib.hid (KI.out k hlk a' c' w5 (Ext.trans HWL.out HE5.out) (hI.below hE5) hcap)
                      obtain ⟨z0, z1, z2, z3, z4, z5, z6, z7, z8⟩ := BL.out wr hE
                      have hlw : w2.heap.size < wr.heap.size := cell_lt2 z0
                      have HST := Lib.hid (fun h : fstE (fun k => ckIns p fn (insAt fn k)) k = 0 => show fstE (fun k => ckIns p fn (insAt fn k)) (k + 1) = ckIns p fn (fn.code[k]) from by rw [fstE_step h]; simp only [HIN.out k hlk])
                      have HSP := Lib.hid (fun h : ckIns p fn (fn.code[k]) ≠ 0 => show res = ckIns p fn (fn.code[k]) from by
                        rw [HCK.out]
                        have := fstE_stop (f := fun k => ckIns p fn (insAt fn k)) (j := k) HF.out (by simp only [HIN.out k hlk]; exact h) hlk
                        rw [this]; simp only [HIN.out k hlk])
                      generalize ckIns p fn (fn.code[k]) = ie at *
                      generalize (fn.code[k]).op = io at *
                      generalize (fn.code[k]).a = ia at *
                      generalize (fn.code[k]).b = ib at *
                      generalize (fn.code[k]).c = ic at *
                      generalize (fn.code[k]).args.length = il at *
                      clear hE hE5 hI hcap
                      go_wp2_with fail
                      rw [← hw5]
                      clear hw5 i0 i1 i2 i3 i4 z0 z1 z2 z3 z4 z5 z6 z7 z8
                      refine K.out.mono ?_
                      intro w6 hB
                      have HE6 := Lib.hid (Ext.trans HE5.out hB)
                      clear hB
                      by_cases hie : ie = 0
                      · have HS := Lib.hid (show fstE (fun k => ckIns p fn (insAt fn k)) (k + 1) = 0 by rw [HST.out HF.out, hie])
                        rw [hie]
                        clear hie
                        go_wp2
                        go_roundw
                        case rel => exact ⟨k + 1, by omega, by go_num, HS.out, HE6.out⟩
                        case measure => simp [intOf]; omega
                      · have HR := Lib.hid (HSP.out hie)
                        have hie' : (ie != 0) = true := by rw [bne_iff_ne]; exact hie
                        clear hie
                        go_wp2
                        go_ret
                        exact ⟨by rw [HR.out]; rfl, Ext.trans HWL.out HE6.out⟩
                    · obtain rfl : k = fn.code.length := by omega
                      have HR := Lib.hid (show res = 0 by rw [HCK.out, HF.out])
                      clear hE
                      go_wp2
                      go_ret
                      exact ⟨by rw [HR.out]; rfl, Ext.trans HWL.out HE.out⟩

end Go.Proofs.YtfkjokbhnblndaaGreatDoor
