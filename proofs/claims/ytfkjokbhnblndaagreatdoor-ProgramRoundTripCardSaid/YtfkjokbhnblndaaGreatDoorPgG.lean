/- checkObject, checkVar. -/
import Derived.Test.YtfkjokbhnblndaaGreatDoorPgU
namespace Go.Proofs.YtfkjokbhnblndaaGreatDoor
open Go.RowKit
set_option linter.unusedVariables false
set_option linter.unusedSimpArgs false

theorem ckOb_at (l : List Ob) (i : Nat) (hi : i < l.length) : ckOb l i = (if isNm (l[i]).name = false then 5
    else if inB (l[i]).kind 1 9 = false then 8
    else if inB (l[i]).size (szLo (l[i]).kind) (szHi (l[i]).kind) = false ∨ inB (l[i]).oth (otLo (l[i]).kind) (otHi l.length (l[i]).kind) = false then 2
    else if (l[i]).kind = 3 ∧ kindAt l (l[i]).oth ≠ 1 then 8
    else if (l.take i).any (fun x => x.name == (l[i]).name) then 6 else 0) := by
  unfold ckOb
  rw [List.getElem?_eq_getElem hi]
theorem ObRow.take {w : World} {a : Option Addr} {l : List Ob} (h : ObRow w a l) (n : Nat) : ObRow w a (l.take n) := fun i hi => by
  have hi' : i < l.length := by rw [List.length_take] at hi; omega
  obtain ⟨b, o, e, hc⟩ := h i hi'
  exact ⟨b, o, e, by rw [List.getElem_take]; exact hc⟩
theorem VaRow.take {w : World} {a : Option Addr} {l : List Va} (h : VaRow w a l) (n : Nat) : VaRow w a (l.take n) := fun i hi => by
  have hi' : i < l.length := by rw [List.length_take] at hi; omega
  obtain ⟨b, o, e, hc⟩ := h i hi'
  exact ⟨b, o, e, by rw [List.getElem_take]; exact hc⟩
theorem FnRow.take {w : World} {a : Option Addr} {l : List Fn} (h : FnRow w a l) (n : Nat) : FnRow w a (l.take n) := fun i hi => by
  have hi' : i < l.length := by rw [List.length_take] at hi; omega
  obtain ⟨b, o, x, y, e, hc⟩ := h i hi'
  exact ⟨b, o, x, y, e, by simpa [List.getElem_take] using hc⟩

set_option maxRecDepth 100000 in
set_option maxHeartbeats 2000000 in
theorem checkObject_any (p : Pg) (A : PA) (i : Nat) (w : World) (h : PgAt w p A) (hi : i < p.os.length) : Gives Tryz.prog 35 #[PV p A, .int .i64 (i : Int)] w (.int .i64 (ckOb p.os i)) := by
  unfold Gives
  have HP := Lib.hid h
  have HCK := Lib.hid (ckOb_at p.os i hi)
  generalize ckOb p.os i = res at *
  obtain ⟨b, off, hoa, hc⟩ := h.os i hi
  have hno := h.wf.no
  have hwf := h.wf.os _ (List.getElem_mem hi)
  obtain ⟨fa, fc, oa, oc, va, vc⟩ := A
  dsimp only at hoa
  subst hoa
  obtain ⟨c0, c1, c2, c3⟩ := hc
  have hlt : b < w.heap.size := cell_lt2 c0
  obtain ⟨wk, hwk⟩ : ∃ W, W = ((w.alloc (.cells #[.slice fa p.fs.length fc, .slice (some ⟨b, off, none⟩) p.os.length oc, .slice va p.vs.length vc] 26)).alloc (.cells #[sV (p.os[i]).name, .int .i64 (p.os[i]).kind, .int .i64 (p.os[i]).size, .int .i64 (p.os[i]).oth] 52)) := ⟨_, rfl⟩
  have BX := Lib.hid (show ∀ W, Ext wk W → (W.cell? ⟨w.heap.size, 0, none⟩ = some (.slice fa p.fs.length fc) ∧ W.cell? ⟨w.heap.size, 1, none⟩ = some (.slice (some ⟨b, off, none⟩) p.os.length oc) ∧ W.cell? ⟨w.heap.size, 2, none⟩ = some (.slice va p.vs.length vc) ∧ W.cell? ⟨w.heap.size + 1, 0, none⟩ = some (sV (p.os[i]).name) ∧ W.cell? ⟨w.heap.size + 1, 1, none⟩ = some (.int .i64 (p.os[i]).kind) ∧ W.cell? ⟨w.heap.size + 1, 2, none⟩ = some (.int .i64 (p.os[i]).size) ∧ W.cell? ⟨w.heap.size + 1, 3, none⟩ = some (.int .i64 (p.os[i]).oth)) from fun W hW => by
    subst hwk
    have h0 := alloc_here w (.cells #[.slice fa p.fs.length fc, .slice (some ⟨b, off, none⟩) p.os.length oc, .slice va p.vs.length vc] 26)
    have h0 := (Below.heap_alloc _ (.cells #[sV (p.os[i]).name, .int .i64 (p.os[i]).kind, .int .i64 (p.os[i]).size, .int .i64 (p.os[i]).oth] 52) _ (lt_of_block h0)).trans h0
    have k0 := (hW.below.block _ (lt_of_block h0)).trans h0
    have h1 := alloc_here (w.alloc (.cells #[.slice fa p.fs.length fc, .slice (some ⟨b, off, none⟩) p.os.length oc, .slice va p.vs.length vc] 26)) (.cells #[sV (p.os[i]).name, .int .i64 (p.os[i]).kind, .int .i64 (p.os[i]).size, .int .i64 (p.os[i]).oth] 52)
    simp only [World.size_alloc] at h1
    have k1 := (hW.below.block _ (lt_of_block h1)).trans h1
    exact ⟨cell_of k0 rfl, cell_of k0 rfl, cell_of k0 rfl, cell_of k1 rfl, cell_of k1 rfl, cell_of k1 rfl, cell_of k1 rfl⟩)
  have HW := Lib.hid (show Ext w wk by rw [hwk]; exact (ext_alloc (ext_alloc (Below.refl _ _) _) _))
  have HE0 := Lib.hid (show Ext wk wk from Below.refl _ _)
  have hnm := hwf.name
  clear h hwf
  dsimp only [PV]
  go_enter Tryz.func35, Tryz.ntmps35
  go_wp2_with fail
  rw [← hwk]
  clear hwk
  clear c0 c1 c2 c3
  have hi64 := hi
  generalize (p.os[i]).name = nm at *
  generalize (p.os[i]).kind = kd at *
  generalize (p.os[i]).size = sz at *
  generalize (p.os[i]).oth = ot at *
  refine (sizes_any _ _).mono ?_
  rintro _ v1 ⟨rfl, hv1⟩
  rw [hv1]
  clear hv1 v1
  obtain ⟨d0_0, d0_1, d0_2, d1_0, d1_1, d1_2, d1_3⟩ := BX.out _ HE0.out
  go_wp2_with fail
  clear d0_0 d0_1 d0_2 d1_0 d1_1 d1_2 d1_3
  refine (others_any p ⟨fa, fc, some ⟨b, off, none⟩, oc, va, vc⟩ _ _ hno).mono ?_
  intro w1 hB
  have HE1 := Lib.hid (Ext.trans HE0.out hB)
  clear hB
  obtain ⟨d0_0, d0_1, d0_2, d1_0, d1_1, d1_2, d1_3⟩ := BX.out _ HE1.out
  go_wp2_with fail
  clear d0_0 d0_1 d0_2 d1_0 d1_1 d1_2 d1_3
  refine (isName_any _ _ hnm).mono ?_
  intro w2 hB
  have HE2 := Lib.hid (Ext.trans HE1.out hB)
  clear hB
  obtain ⟨d0_0, d0_1, d0_2, d1_0, d1_1, d1_2, d1_3⟩ := BX.out _ HE2.out
  cases hb : isNm nm with
  | false =>
    go_wp2
    go_ret
    exact ⟨by rw [HCK.out, hb]; rfl, Ext.trans HW.out HE2.out⟩
  | true =>
    rw [hb, if_neg (by simp)] at HCK
    clear hb
    go_wp2_with fail
    clear d0_0 d0_1 d0_2 d1_0 d1_1 d1_2 d1_3
    refine (within_any _ _ _ _).mono ?_
    rintro _ v1 ⟨rfl, hv1⟩
    rw [hv1]
    clear hv1 v1
    obtain ⟨d0_0, d0_1, d0_2, d1_0, d1_1, d1_2, d1_3⟩ := BX.out _ HE2.out
    cases hb : inB kd 1 9 with
    | false =>
      go_wp2
      go_ret
      exact ⟨by rw [HCK.out, hb]; rfl, Ext.trans HW.out HE2.out⟩
    | true =>
      rw [hb, if_neg (by simp)] at HCK
      clear hb
      go_wp2_with fail
      clear d0_0 d0_1 d0_2 d1_0 d1_1 d1_2 d1_3
      refine (within_any _ _ _ _).mono ?_
      rintro _ v1 ⟨rfl, hv1⟩
      rw [hv1]
      clear hv1 v1
      obtain ⟨d0_0, d0_1, d0_2, d1_0, d1_1, d1_2, d1_3⟩ := BX.out _ HE2.out
      cases hb : inB sz (szLo kd) (szHi kd) with
      | false =>
        go_wp2
        go_ret
        exact ⟨by rw [HCK.out, hb]; rfl, Ext.trans HW.out HE2.out⟩
      | true =>
        rw [hb] at HCK
        clear hb
        go_wp2_with fail
        clear d0_0 d0_1 d0_2 d1_0 d1_1 d1_2 d1_3
        refine (within_any _ _ _ _).mono ?_
        rintro _ v1 ⟨rfl, hv1⟩
        rw [hv1]
        clear hv1 v1
        obtain ⟨d0_0, d0_1, d0_2, d1_0, d1_1, d1_2, d1_3⟩ := BX.out _ HE2.out
        cases hb : inB ot (otLo kd) (otHi p.os.length kd) with
        | false =>
          go_wp2
          go_ret
          exact ⟨by rw [HCK.out, hb]; rfl, Ext.trans HW.out HE2.out⟩
        | true =>
          rw [hb, if_neg (by simp)] at HCK
          have hwl := HP.out.wf.no
          have KF := Lib.hid (fun (W0 : World) (hW0 : Ext wk W0) => show Gives Tryz.prog 80 #[.slice (some ⟨b, off, none⟩) i oc, .func (.func 81) #[] #[.pointer (some ⟨w.heap.size + 1, 0, none⟩)]] W0 (.bool ((p.os.take i).any (fun x => x.name == nm))) from by
            have := ContainsOb_any (p.os.take i) (some ⟨b, off, none⟩) oc 81 #[.pointer (some ⟨w.heap.size + 1, 0, none⟩)] (fun x => x.name == nm) W0 ((HP.out.os.ext (Ext.trans HW.out hW0)).take i) (by rw [List.length_take]; omega) (enters_fn Tryz.func81 (by kernel_rfl) rfl) (fun j hj W hW => by
              obtain ⟨d0_0, d0_1, d0_2, d1_0, d1_1, d1_2, d1_3⟩ := BX.out W (Ext.trans hW0 hW)
              exact closOb _ _ _ _ _ _ W d1_0)
            rw [List.length_take, Nat.min_eq_left (by omega)] at this
            exact this)
          generalize ((p.os.take i).any (fun x => x.name == nm)) = an at *
          have hoc : i ≤ oc := by have h1 := HP.out.co; dsimp only at h1; omega
          by_cases h3 : kd = 3
          · obtain ⟨ho1, ho2⟩ : 0 ≤ ot ∧ ot ≤ (p.os.length : Int) - 1 := by subst h3; simpa [inB, otLo, otHi] using hb
            obtain ⟨m, rfl⟩ : ∃ m : Nat, ot = m := ⟨ot.toNat, by omega⟩
            have hm : m < p.os.length := by omega
            obtain ⟨b', off', e', hcs⟩ := HP.out.os m hm
            obtain ⟨rfl, rfl⟩ : b = b' ∧ off = off' := by simpa using e'
            have ck := cell_ext (cell_ext hcs.c1 HW.out) HE2.out
            have hka : kindAt p.os (m : Int) = (p.os[m]).kind := by simp [kindAt, hm]
            rw [hka] at HCK
            clear hcs e' hb hka
            generalize (p.os[m]).kind = km at *
            by_cases hk1 : km = 1
            · rw [if_neg (by simp [hk1])] at HCK
              subst h3 hk1
              go_wp2_with fail
              clear ck
              refine (KF.out _ HE2.out).mono ?_
              intro w3 hB
              have HE3 := Lib.hid (Ext.trans HE2.out hB)
              clear hB
              cases an with
              | true => go_wp2; go_ret; exact ⟨by rw [HCK.out]; rfl, Ext.trans HW.out HE3.out⟩
              | false => go_wp2; go_ret; exact ⟨by rw [HCK.out]; rfl, Ext.trans HW.out HE3.out⟩
            · rw [if_pos ⟨h3, hk1⟩] at HCK
              have hk1' : (km != 1) = true := by rw [bne_iff_ne]; exact hk1
              subst h3
              go_wp2
              go_ret
              exact ⟨by rw [HCK.out]; rfl, Ext.trans HW.out HE2.out⟩
          · rw [if_neg (fun h => h3 h.1)] at HCK
            have h3' : (kd == 3) = false := by simpa using h3
            clear hb
            go_wp2_with fail
            refine (KF.out _ HE2.out).mono ?_
            intro w3 hB
            have HE3 := Lib.hid (Ext.trans HE2.out hB)
            clear hB
            cases an with
            | true => go_wp2; go_ret; exact ⟨by rw [HCK.out]; rfl, Ext.trans HW.out HE3.out⟩
            | false => go_wp2; go_ret; exact ⟨by rw [HCK.out]; rfl, Ext.trans HW.out HE3.out⟩

end Go.Proofs.YtfkjokbhnblndaaGreatDoor
