/- Check. -/
import Derived.Test.YtfkjokbhnblndaaGreatDoorPgO
namespace Go.Proofs.YtfkjokbhnblndaaGreatDoor
open Go.RowKit
set_option linter.unusedVariables false
set_option linter.unusedSimpArgs false

theorem fs_nil {p : Pg} (h : p.fs.length = 0) : ckPg p = 1 := by unfold ckPg; rw [if_pos h]

set_option maxRecDepth 100000 in
set_option maxHeartbeats 4000000 in
theorem Check_any (p : Pg) (A : PA) (w : World) (h : PgAt w p A) : Gives Tryz.prog 17 #[PV p A] w (.int .i64 (ckPg p)) := by
  unfold Gives
  have KO := Lib.hid (fun W (hW : Ext w W) k (hk : k < p.os.length) => checkObject_any p A k W (h.ext hW) hk)
  have KV := Lib.hid (fun W (hW : Ext w W) k (hk : k < p.vs.length) => checkVar_any p A k W (h.ext hW) hk)
  have KF := Lib.hid (fun W (hW : Ext w W) k (hk : k < p.fs.length) => checkFunc_any p A k W (h.ext hW) hk)
  dsimp only [PV] at KO KV KF ⊢
  obtain ⟨wk, hwk⟩ : ∃ W, W = (w.alloc (.cells #[.slice A.fa p.fs.length A.fc, .slice A.oa p.os.length A.oc, .slice A.va p.vs.length A.vc] 26)) := ⟨_, rfl⟩
  have BX := Lib.hid (show ∀ W, Ext wk W → (W.cell? ⟨w.heap.size, 0, none⟩ = some (.slice A.fa p.fs.length A.fc) ∧ W.cell? ⟨w.heap.size, 1, none⟩ = some (.slice A.oa p.os.length A.oc) ∧ W.cell? ⟨w.heap.size, 2, none⟩ = some (.slice A.va p.vs.length A.vc)) from fun W hW => by
    subst hwk
    have h0 := alloc_here w (.cells #[.slice A.fa p.fs.length A.fc, .slice A.oa p.os.length A.oc, .slice A.va p.vs.length A.vc] 26)
    have k0 := (hW.below.block _ (lt_of_block h0)).trans h0
    exact ⟨cell_of k0 rfl, cell_of k0 rfl, cell_of k0 rfl⟩)
  have HWZ := Lib.hid (show wk.heap.size = w.heap.size + 1 by rw [hwk]; simp)
  have HW := Lib.hid (show Ext w wk by rw [hwk]; exact (ext_alloc (Below.refl _ _) _))
  have HE0 := Lib.hid (show Ext wk wk from Below.refl _ _)
  have HR := Lib.hid (show ckPg p = (if p.fs.length = 0 then 1
    else if p.fs.length > 32 ∨ p.os.length > 16 ∨ p.vs.length > 16 then 4
    else if fstE (ckOb p.os) p.os.length ≠ 0 then fstE (ckOb p.os) p.os.length
    else if fstE (ckVa p) p.vs.length ≠ 0 then fstE (ckVa p) p.vs.length
    else fstE (ckFn p) p.fs.length) from rfl)
  generalize ckPg p = res at *
  clear h
  obtain ⟨fa, fc, oa, oc, va, vc⟩ := A
  dsimp only at *
  generalize p.fs.length = nf at *
  generalize p.os.length = no at *
  generalize p.vs.length = nv at *
  by_cases h0 : nf = 0
  · subst h0
    rw [if_pos rfl] at HR
    go_enter Tryz.func17, Tryz.ntmps17
    go_wp2
    rw [← hwk]
    go_ret
    exact ⟨by rw [HR.out]; rfl, HW.out⟩
  · rw [if_neg h0] at HR
    have g0 : ((nf : Int) == 0) = false := by rw [beq_eq_false_iff_ne]; omega
    by_cases h1 : 32 < nf
    · rw [if_pos (.inl h1)] at HR
      have g1 : (32 : Int) < nf := by omega
      go_enter Tryz.func17, Tryz.ntmps17
      go_wp2
      rw [← hwk]
      go_ret
      exact ⟨by rw [HR.out]; rfl, HW.out⟩
    · have g1 : ¬ (32 : Int) < nf := by omega
      by_cases h2 : 16 < no
      · rw [if_pos (.inr (.inl h2))] at HR
        have g2 : (16 : Int) < no := by omega
        go_enter Tryz.func17, Tryz.ntmps17
        go_wp2
        rw [← hwk]
        go_ret
        exact ⟨by rw [HR.out]; rfl, HW.out⟩
      · have g2 : ¬ (16 : Int) < no := by omega
        by_cases h3 : 16 < nv
        · rw [if_pos (.inr (.inr h3))] at HR
          have g3 : (16 : Int) < nv := by omega
          go_enter Tryz.func17, Tryz.ntmps17
          go_wp2
          rw [← hwk]
          go_ret
          exact ⟨by rw [HR.out]; rfl, HW.out⟩
        · have g3 : ¬ (16 : Int) < nv := by omega
          rw [if_neg (by omega)] at HR
          go_enter Tryz.func17, Tryz.ntmps17
          go_wp2_with fail
          rw [← hwk]
          clear hwk
          go_loopw [32] (fun i wr => ∃ k : Nat, k ≤ no ∧ i = .int .i64 k ∧ fstE (ckOb p.os) k = 0 ∧ Ext wk wr) (fun i _ => no - (intOf i).toNat)
          case atStart => exact ⟨0, Nat.zero_le _, rfl, rfl, (Below.refl _ _)⟩
          case round =>
            obtain ⟨k, hk, rfl, he, hE⟩ := hrel
            have HE := Lib.hid hE
            have HF := Lib.hid he
            clear he
            obtain ⟨d0_0, d0_1, d0_2⟩ := BX.out wr hE
            by_cases hlk : k < no
            · have K := Lib.hid (KO.out wr (Ext.trans HW.out hE) k hlk)
              have HST := Lib.hid (fun h : (ckOb p.os) k = 0 => show fstE (ckOb p.os) (k + 1) = 0 from by rw [fstE_step HF.out, h])
              have HSP := Lib.hid (fun h : (ckOb p.os) k ≠ 0 => show res = (ckOb p.os) k from by
                have e := fstE_stop HF.out h hlk
                first | rw [HR.out, if_pos (by rw [e]; exact h), e] | rw [HR.out, e])
              generalize (ckOb p.os) k = e1 at *
              clear hE
              go_wp2_with fail
              clear d0_0 d0_1 d0_2
              refine K.out.mono ?_
              intro w6 hB
              have HE6 := Lib.hid (Ext.trans HE.out hB)
              clear hB
              by_cases hie : e1 = 0
              · have HS := Lib.hid (HST.out hie)
                rw [hie]
                clear hie
                obtain ⟨d0_0, d0_1, d0_2⟩ := BX.out w6 HE6.out
                go_wp2
                go_roundw
                case rel => exact ⟨k + 1, by omega, by go_num, HS.out, HE6.out⟩
                case measure => simp [intOf]; omega
              · have HRR := Lib.hid (HSP.out hie)
                have hie' : (e1 != 0) = true := by rw [bne_iff_ne]; exact hie
                clear hie
                obtain ⟨d0_0, d0_1, d0_2⟩ := BX.out w6 HE6.out
                go_wp2
                go_ret
                exact ⟨by rw [HRR.out]; rfl, Ext.trans HW.out HE6.out⟩
            · obtain rfl : k = no := by omega
              rw [if_neg (not_not_intro HF.out)] at HR
              have HE1 := Lib.hid hE
              clear hE
              generalize wr = wo at *
              go_wp2_with fail
              clear d0_0 d0_1 d0_2
              go_loopw [45] (fun i wr => ∃ k : Nat, k ≤ nv ∧ i = .int .i64 k ∧ fstE (ckVa p) k = 0 ∧ Ext wk wr) (fun i _ => nv - (intOf i).toNat)
              case atStart => exact ⟨0, Nat.zero_le _, rfl, rfl, HE1.out⟩
              case round =>
                obtain ⟨k, hk, rfl, he, hE⟩ := hrel
                have HE := Lib.hid hE
                have HF := Lib.hid he
                clear he
                obtain ⟨d0_0, d0_1, d0_2⟩ := BX.out wr hE
                by_cases hlk : k < nv
                · have K := Lib.hid (KV.out wr (Ext.trans HW.out hE) k hlk)
                  have HST := Lib.hid (fun h : (ckVa p) k = 0 => show fstE (ckVa p) (k + 1) = 0 from by rw [fstE_step HF.out, h])
                  have HSP := Lib.hid (fun h : (ckVa p) k ≠ 0 => show res = (ckVa p) k from by
                    have e := fstE_stop HF.out h hlk
                    first | rw [HR.out, if_pos (by rw [e]; exact h), e] | rw [HR.out, e])
                  generalize (ckVa p) k = e1 at *
                  clear hE
                  go_wp2_with fail
                  clear d0_0 d0_1 d0_2
                  refine K.out.mono ?_
                  intro w6 hB
                  have HE6 := Lib.hid (Ext.trans HE.out hB)
                  clear hB
                  by_cases hie : e1 = 0
                  · have HS := Lib.hid (HST.out hie)
                    rw [hie]
                    clear hie
                    obtain ⟨d0_0, d0_1, d0_2⟩ := BX.out w6 HE6.out
                    go_wp2
                    go_roundw
                    case rel => exact ⟨k + 1, by omega, by go_num, HS.out, HE6.out⟩
                    case measure => simp [intOf]; omega
                  · have HRR := Lib.hid (HSP.out hie)
                    have hie' : (e1 != 0) = true := by rw [bne_iff_ne]; exact hie
                    clear hie
                    obtain ⟨d0_0, d0_1, d0_2⟩ := BX.out w6 HE6.out
                    go_wp2
                    go_ret
                    exact ⟨by rw [HRR.out]; rfl, Ext.trans HW.out HE6.out⟩
                · obtain rfl : k = nv := by omega
                  rw [if_neg (not_not_intro HF.out)] at HR
                  have HE2 := Lib.hid hE
                  clear hE
                  generalize wr = wv at *
                  go_wp2_with fail
                  clear d0_0 d0_1 d0_2
                  go_loopw [58] (fun i wr => ∃ k : Nat, k ≤ nf ∧ i = .int .i64 k ∧ fstE (ckFn p) k = 0 ∧ Ext wk wr) (fun i _ => nf - (intOf i).toNat)
                  case atStart => exact ⟨0, Nat.zero_le _, rfl, rfl, HE2.out⟩
                  case round =>
                    obtain ⟨k, hk, rfl, he, hE⟩ := hrel
                    have HE := Lib.hid hE
                    have HF := Lib.hid he
                    clear he
                    obtain ⟨d0_0, d0_1, d0_2⟩ := BX.out wr hE
                    by_cases hlk : k < nf
                    · have K := Lib.hid (KF.out wr (Ext.trans HW.out hE) k hlk)
                      have HST := Lib.hid (fun h : (ckFn p) k = 0 => show fstE (ckFn p) (k + 1) = 0 from by rw [fstE_step HF.out, h])
                      have HSP := Lib.hid (fun h : (ckFn p) k ≠ 0 => show res = (ckFn p) k from by
                        have e := fstE_stop HF.out h hlk
                        first | rw [HR.out, if_pos (by rw [e]; exact h), e] | rw [HR.out, e])
                      generalize (ckFn p) k = e1 at *
                      clear hE
                      go_wp2_with fail
                      clear d0_0 d0_1 d0_2
                      refine K.out.mono ?_
                      intro w6 hB
                      have HE6 := Lib.hid (Ext.trans HE.out hB)
                      clear hB
                      by_cases hie : e1 = 0
                      · have HS := Lib.hid (HST.out hie)
                        rw [hie]
                        clear hie
                        obtain ⟨d0_0, d0_1, d0_2⟩ := BX.out w6 HE6.out
                        go_wp2
                        go_roundw
                        case rel => exact ⟨k + 1, by omega, by go_num, HS.out, HE6.out⟩
                        case measure => simp [intOf]; omega
                      · have HRR := Lib.hid (HSP.out hie)
                        have hie' : (e1 != 0) = true := by rw [bne_iff_ne]; exact hie
                        clear hie
                        obtain ⟨d0_0, d0_1, d0_2⟩ := BX.out w6 HE6.out
                        go_wp2
                        go_ret
                        exact ⟨by rw [HRR.out]; rfl, Ext.trans HW.out HE6.out⟩
                    · obtain rfl : k = nf := by omega
                      rw [HF.out] at HR
                      clear hE
                      go_wp2
                      go_ret
                      exact ⟨by rw [HR.out]; rfl, Ext.trans HW.out HE.out⟩

end Go.Proofs.YtfkjokbhnblndaaGreatDoor
