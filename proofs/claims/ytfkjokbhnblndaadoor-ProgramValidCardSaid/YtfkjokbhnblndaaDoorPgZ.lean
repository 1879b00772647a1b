/- Great: some boolean. -/
import Derived.Test.YtfkjokbhnblndaaDoorPgY
namespace Go.Proofs.YtfkjokbhnblndaaDoor
open Go.RowKit Go.Shelf
set_option linter.unusedVariables false
set_option linter.unusedSimpArgs false

/-- some boolean, memory as it was -/
def SomeB (w : World) (e : Ending) (w' : World) : Prop := ∃ b, e = .returned (.bool b) ∧ Ext w w'
theorem someB (w : World) {w' : World} (b : Bool) (h : Ext w w') : SomeB w (.returned (.bool b)) w' := ⟨b, rfl, h⟩

set_option maxRecDepth 100000 in
set_option maxHeartbeats 2000000 in
theorem greatInstr_any (x : Ins) (a : Option Addr) (c : Nat) (w : World) : Gives Tryd.prog 36 #[IV x a c] w (.bool (decide (24 < x.args.length))) := by
  unfold Gives
  dsimp only [IV]
  obtain ⟨wk, hwk⟩ : ∃ W, W = (w.alloc (.cells #[.int .i64 x.op, .int .i64 x.a, .int .i64 x.b, .int .i64 x.c, .slice a x.args.length c] 56)) := ⟨_, rfl⟩
  have BX := Lib.hid (show ∀ W, Ext wk W → (W.cell? ⟨w.heap.size, 0, none⟩ = some (.int .i64 x.op) ∧ W.cell? ⟨w.heap.size, 1, none⟩ = some (.int .i64 x.a) ∧ W.cell? ⟨w.heap.size, 2, none⟩ = some (.int .i64 x.b) ∧ W.cell? ⟨w.heap.size, 3, none⟩ = some (.int .i64 x.c) ∧ W.cell? ⟨w.heap.size, 4, none⟩ = some (.slice a x.args.length c)) from fun W hW => by
    subst hwk
    have h0 := alloc_here w (.cells #[.int .i64 x.op, .int .i64 x.a, .int .i64 x.b, .int .i64 x.c, .slice a x.args.length c] 56)
    have k0 := (hW.below.block _ (lt_of_block h0)).trans h0
    exact ⟨cell_of k0 rfl, cell_of k0 rfl, cell_of k0 rfl, cell_of k0 rfl, cell_of k0 rfl⟩)
  have HWZ := Lib.hid (show wk.heap.size = w.heap.size + 1 by rw [hwk]; simp)
  have HW := Lib.hid (show Ext w wk by rw [hwk]; exact (ext_alloc (Below.refl _ _) _))
  have HE0 := Lib.hid (show Ext wk wk from Below.refl _ _)
  obtain ⟨d0_0, d0_1, d0_2, d0_3, d0_4⟩ := BX.out _ HE0.out
  by_cases hg : 24 < x.args.length
  · have g1 : (24 : Int) < x.args.length := by omega
    go_enter Tryd.func36, Tryd.ntmps36
    go_wp2
    rw [← hwk]
    go_ret
    exact ⟨by simp [hg], HW.out⟩
  · have g1 : ¬ (24 : Int) < x.args.length := by omega
    go_enter Tryd.func36, Tryd.ntmps36
    go_wp2
    rw [← hwk]
    go_ret
    exact ⟨by simp [hg], HW.out⟩

set_option maxRecDepth 100000 in
set_option maxHeartbeats 4000000 in
theorem Great_any (p : Pg) (A : PA) (w : World) (h : PgAt w p A) : Calls Tryd.prog 7 #[PV p A] w (SomeB w) := by
  have HP := Lib.hid h
  have hwf := h.wf
  obtain ⟨fa, fc, oa, oc, va, vc⟩ := A
  dsimp only [PV]
  obtain ⟨nf, hnf⟩ : ∃ n, p.fs.length = n := ⟨_, rfl⟩
  obtain ⟨no, hno⟩ : ∃ n, p.os.length = n := ⟨_, rfl⟩
  obtain ⟨nv, hnv⟩ : ∃ n, p.vs.length = n := ⟨_, rfl⟩
  have bf := hwf.nf
  have bo := hwf.no
  have bv := hwf.nv
  have HWF := Lib.hid hwf
  rw [hnf] at bf ⊢
  rw [hno] at bo ⊢
  rw [hnv] at bv ⊢
  have HNF := Lib.hid hnf
  have HNO := Lib.hid hno
  have HNV := Lib.hid hnv
  clear hnf hno hnv h hwf
  obtain ⟨wk, hwk⟩ : ∃ W, W = (w.alloc (.cells #[.slice fa nf fc, .slice oa no oc, .slice va nv vc] 26)) := ⟨_, rfl⟩
  have BX := Lib.hid (show ∀ W, Ext wk W → (W.cell? ⟨w.heap.size, 0, none⟩ = some (.slice fa nf fc) ∧ W.cell? ⟨w.heap.size, 1, none⟩ = some (.slice oa no oc) ∧ W.cell? ⟨w.heap.size, 2, none⟩ = some (.slice va nv vc)) from fun W hW => by
    subst hwk
    have h0 := alloc_here w (.cells #[.slice fa nf fc, .slice oa no oc, .slice va nv vc] 26)
    have k0 := (hW.below.block _ (lt_of_block h0)).trans h0
    exact ⟨cell_of k0 rfl, cell_of k0 rfl, cell_of k0 rfl⟩)
  have HWZ := Lib.hid (show wk.heap.size = w.heap.size + 1 by rw [hwk]; simp)
  have HW := Lib.hid (show Ext w wk by rw [hwk]; exact (ext_alloc (Below.refl _ _) _))
  have HE0 := Lib.hid (show Ext wk wk from Below.refl _ _)
  have HE := Lib.hid (show Ext wk wk from Below.refl _ _)
  have ent : ∀ (_ : True), True := fun _ => trivial
  obtain ⟨d0_0, d0_1, d0_2⟩ := BX.out _ HE.out
  by_cases hnf : 34 < nf
  · have gnf : (34 : Int) < nf := by omega
    go_enter Tryd.func7, Tryd.ntmps7
    go_wp2
    rw [← hwk]
    go_ret
    exact someB w true HW.out
  · have gnf : ¬ (34 : Int) < nf := by omega
    by_cases hno : 18 < no
    · have gno : (18 : Int) < no := by omega
      go_enter Tryd.func7, Tryd.ntmps7
      go_wp2
      rw [← hwk]
      go_ret
      exact someB w true HW.out
    · have gno : ¬ (18 : Int) < no := by omega
      by_cases hnv : 18 < nv
      · have gnv : (18 : Int) < nv := by omega
        go_enter Tryd.func7, Tryd.ntmps7
        go_wp2
        rw [← hwk]
        go_ret
        exact someB w true HW.out
      · have gnv : ¬ (18 : Int) < nv := by omega
        go_enter Tryd.func7, Tryd.ntmps7
        go_wp2_with fail
        rw [← hwk]
        clear hwk d0_0 d0_1 d0_2
        go_loopw [3, 4] (fun n i wr => ∃ k m : Nat, k ≤ nf ∧ m ≤ 250 ∧ n = .int .i64 (m : Int) ∧ i = .int .i64 (k : Int) ∧ Ext wk wr) (fun _ i _ => nf - (intOf i).toNat)
        case atStart => exact ⟨0, 0, Nat.zero_le _, by omega, rfl, rfl, HE.out⟩
        case round =>
          obtain ⟨k, m, hk, hm, rfl, rfl, hE⟩ := hrel
          clear HE
          have HE := Lib.hid hE
          clear hE
          obtain ⟨d0_0, d0_1, d0_2⟩ := BX.out wr HE.out
          by_cases hlt : k < nf
          · have hlt' : k < p.fs.length := by rw [HNF.out]; exact hlt
            obtain ⟨b0, off, ca, cc, hfa, hcs, hir⟩ := HP.out.fs k hlt'
            dsimp only at hfa
            subst hfa
            have HCS := Lib.hid hcs
            have HIR := Lib.hid hir
            obtain ⟨c0, c1, c2, c3, c4, c5⟩ := hcs.ext (Ext.trans HW.out HE.out)
            clear hcs hir
            have hwn := (HWF.out.fs _ (List.getElem_mem hlt')).len
            have hwm := (HWF.out.fs _ (List.getElem_mem hlt')).name
            obtain ⟨f, hf⟩ : ∃ f, p.fs[k] = f := ⟨_, rfl⟩
            rw [hf] at HCS HIR c0 c1 c2 c3 c4 c5 hwn hwm
            clear hf hlt'
            by_cases h1 : 250 < m + f.code.length
            · have g1 : (250 : Int) < (m : Int) + (f.code.length : Int) := by omega
              go_wp2
              go_ret
              exact someB w true (Ext.trans HW.out HE.out)
            · have g1 : ¬ (250 : Int) < (m : Int) + (f.code.length : Int) := by omega
              by_cases h2 : 40 < f.name.length
              · have g2 : (40 : Int) < (f.name.length : Int) := by omega
                go_wp2
                go_ret
                exact someB w true (Ext.trans HW.out HE.out)
              · have g2 : ¬ (40 : Int) < (f.name.length : Int) := by omega
                go_wp2_with fail
                clear c0 c1 c2 c3 c4 c5 d0_0 d0_1 d0_2
                generalize wr = wo at *
                go_loopw [5] (fun i wr => ∃ j : Nat, j ≤ f.code.length ∧ i = .int .i64 (j : Int) ∧ Ext wk wr) (fun i _ => f.code.length - (intOf i).toNat)
                case atStart => exact ⟨0, Nat.zero_le _, rfl, HE.out⟩
                case round =>
                  obtain ⟨j, hj, rfl, hE⟩ := hrel
                  clear HE
                  have HE := Lib.hid hE
                  clear hE
                  obtain ⟨d0_0, d0_1, d0_2⟩ := BX.out wr HE.out
                  obtain ⟨c0, c1, c2, c3, c4, c5⟩ := HCS.out.ext (Ext.trans HW.out HE.out)
                  by_cases hlj : j < f.code.length
                  · obtain ⟨b1, o1, xa, xc, hca, hic, hia, hxc⟩ := HIR.out j hlj
                    subst hca
                    obtain ⟨e0, e1, e2, e3, e4⟩ := hic.ext (Ext.trans HW.out HE.out)
                    obtain ⟨y, hy⟩ : ∃ y, f.code[j] = y := ⟨_, rfl⟩
                    rw [hy] at e0 e1 e2 e3 e4
                    clear hy hic hia hxc
                    have KG := Lib.hid (fun W => greatInstr_any y xa xc W)
                    dsimp only [IV] at KG
                    go_wp2_with fail
                    clear c0 c1 c2 c3 c4 c5 e0 e1 e2 e3 e4 d0_0 d0_1 d0_2
                    refine (KG.out _).mono ?_
                    intro w6 hB
                    replace HE := Lib.hid (Ext.trans HE.out hB)
                    clear hB
                    generalize decide (24 < y.args.length) = gb
                    cases gb with
                    | true =>
                      go_wp2
                      go_ret
                      exact someB w true (Ext.trans HW.out HE.out)
                    | false =>
                      go_wp2
                      go_roundw
                      case rel => exact ⟨j + 1, by omega, by go_num, HE.out⟩
                      case measure => simp [intOf]; omega
                  · go_wp2
                    go_roundw
                    case rel => exact ⟨k + 1, m + f.code.length, by omega, by omega, by go_num, by go_num, HE.out⟩
                    case measure => simp [intOf]; omega
          · clear hk
            go_wp2_with fail
            clear d0_0 d0_1 d0_2
            generalize wr = wo at *
            clear hlt
            generalize k = k0 at *
            go_loopw [6] (fun i wr => ∃ k : Nat, k ≤ no ∧ i = .int .i64 (k : Int) ∧ Ext wk wr) (fun i _ => no - (intOf i).toNat)
            case atStart => exact ⟨0, Nat.zero_le _, rfl, HE.out⟩
            case round =>
              obtain ⟨k, hk, rfl, hE⟩ := hrel
              clear HE
              have HE := Lib.hid hE
              clear hE
              obtain ⟨d0_0, d0_1, d0_2⟩ := BX.out wr HE.out
              by_cases hlt : k < no
              · have hlt' : k < p.os.length := by rw [HNO.out]; exact hlt
                obtain ⟨b1, off1, hfa, hcs⟩ := HP.out.os k hlt'
                dsimp only at hfa
                subst hfa
                obtain ⟨c0, c1, c2, c3⟩ := hcs.ext (Ext.trans HW.out HE.out)
                clear hcs c1 c2 c3
                have hwm := (HWF.out.os _ (List.getElem_mem hlt')).name
                obtain ⟨f, hf⟩ : ∃ f, p.os[k] = f := ⟨_, rfl⟩
                rw [hf] at c0 hwm
                clear hf hlt'
                by_cases h2 : 40 < f.name.length
                · have g2 : (40 : Int) < (f.name.length : Int) := by omega
                  go_wp2
                  go_ret
                  exact someB w true (Ext.trans HW.out HE.out)
                · have g2 : ¬ (40 : Int) < (f.name.length : Int) := by omega
                  go_wp2
                  go_roundw
                  case rel => exact ⟨k + 1, by omega, by go_num, HE.out⟩
                  case measure => simp [intOf]; omega
              · clear hk
                go_wp2_with fail
                clear d0_0 d0_1 d0_2
                generalize wr = wo2 at *
                clear hlt
                generalize k = k1 at *
                go_loopw [7] (fun i wr => ∃ k : Nat, k ≤ nv ∧ i = .int .i64 (k : Int) ∧ Ext wk wr) (fun i _ => nv - (intOf i).toNat)
                case atStart => exact ⟨0, Nat.zero_le _, rfl, HE.out⟩
                case round =>
                  obtain ⟨k, hk, rfl, hE⟩ := hrel
                  clear HE
                  have HE := Lib.hid hE
                  clear hE
                  obtain ⟨d0_0, d0_1, d0_2⟩ := BX.out wr HE.out
                  by_cases hlt : k < nv
                  · have hlt' : k < p.vs.length := by rw [HNV.out]; exact hlt
                    obtain ⟨b1, off1, hfa, hcs⟩ := HP.out.vs k hlt'
                    dsimp only at hfa
                    subst hfa
                    obtain ⟨c0, c1, c2⟩ := hcs.ext (Ext.trans HW.out HE.out)
                    clear hcs c1 c2
                    have hwm := (HWF.out.vs _ (List.getElem_mem hlt')).name
                    obtain ⟨f, hf⟩ : ∃ f, p.vs[k] = f := ⟨_, rfl⟩
                    rw [hf] at c0 hwm
                    clear hf hlt'
                    by_cases h2 : 40 < f.name.length
                    · have g2 : (40 : Int) < (f.name.length : Int) := by omega
                      go_wp2
                      go_ret
                      exact someB w true (Ext.trans HW.out HE.out)
                    · have g2 : ¬ (40 : Int) < (f.name.length : Int) := by omega
                      go_wp2
                      go_roundw
                      case rel => exact ⟨k + 1, by omega, by go_num, HE.out⟩
                      case measure => simp [intOf]; omega
                  · clear hk
                    go_wp2
                    go_ret
                    exact someB w false (Ext.trans HW.out HE.out)

end Go.Proofs.YtfkjokbhnblndaaDoor
