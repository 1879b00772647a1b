/- The statement ProgramValidCardSaid: for every input the law returns true, and the arguments read as before; the tables of the library that it lists are tied to the text. The frame round the walk of the law. (With it: ProgramValid.) -/
import Derived.Stop.LaidErr
import Derived.Test.YtfkjokbhnblndaaDoorCards
import Derived.Test.YtfkjokbhnblndaaDoorTie
import Derived.WalkKit
import Derived.ProofKit
import Derived.OpenShut
import Derived.ShutString
import Derived.ChangeOld
import Derived.Below
import Derived.Deep.DeepHandedRow
import Derived.Lib.LaidTab
import Derived.Shelf.Vars
import Derived.Test.YtfkjokbhnblndaaDoorCfV1
import Derived.Test.YtfkjokbhnblndaaDoorPgX
import Derived.Test.YtfkjokbhnblndaaDoorPgY
import Derived.Test.YtfkjokbhnblndaaDoorPgZ
import Derived.Test.YtfkjokbhnblndaaDoorOpPg

namespace Go.Proofs.YtfkjokbhnblndaaDoor
open Go.RowKit Go.Shelf
set_option linter.unusedVariables false
set_option linter.unusedSimpArgs false

set_option maxRecDepth 100000 in
set_option maxHeartbeats 4000000 in
theorem programValid_walk (p : Pg) (A : PA) (w : World) (h : PgAt w p A) (hT : TabW w) : Gives Tryd.prog 6 #[PV p A] w (.bool true) := by
  unfold Gives
  have KG := Lib.hid (fun W (hW : Ext w W) => Great_any p A W (h.ext hW))
  have KC := Lib.hid (fun W (hW : Ext w W) => Check_any p A W (h.ext hW))
  have KN := Lib.hid (fun (k j : Int) (hk : i64 k) (hj : i64 j) W (hW : Ext w W) => Next_any p A k j W (h.ext hW) hk hj)
  have KA := Lib.hid (fun W (hW : Ext w W) => awake_any W (hT.below hW))
  have HP := Lib.hid (fun W (hW : Ext w W) => (h.ext hW).fs)
  have HWF := Lib.hid h.wf
  have hno := h.wf.no
  have hnv := h.wf.nv
  have hnf := h.wf.nf
  have HV := Lib.hid (fun (e : ckPg p = 0) => valid_iff.1 e)
  obtain ⟨ck, hck⟩ : ∃ c, ckPg p = c := ⟨_, rfl⟩
  rw [hck] at KC
  have HCK := Lib.hid hck
  clear hck h hT
  obtain ⟨fa, fc, oa, oc, va, vc⟩ := A
  dsimp only [PV] at KG KC KN HP ⊢
  obtain ⟨wk, hwk⟩ : ∃ W, W = (w.alloc (.cells #[.slice fa p.fs.length fc, .slice oa p.os.length oc, .slice va p.vs.length vc] 26)) := ⟨_, rfl⟩
  have BX := Lib.hid (show ∀ W, Ext wk W → (W.cell? ⟨w.heap.size, 0, none⟩ = some (.slice fa p.fs.length fc) ∧ W.cell? ⟨w.heap.size, 1, none⟩ = some (.slice oa p.os.length oc) ∧ W.cell? ⟨w.heap.size, 2, none⟩ = some (.slice va p.vs.length vc)) from fun W hW => by
    subst hwk
    have h0 := alloc_here w (.cells #[.slice fa p.fs.length fc, .slice oa p.os.length oc, .slice va p.vs.length vc] 26)
    have k0 := (hW.below.block _ (lt_of_block h0)).trans h0
    exact ⟨cell_of k0 rfl, cell_of k0 rfl, cell_of k0 rfl⟩)
  have HWZ := Lib.hid (show wk.heap.size = w.heap.size + 1 by rw [hwk]; simp)
  have HW := Lib.hid (show Ext w wk by rw [hwk]; exact (ext_alloc (Below.refl _ _) _))
  have HE0 := Lib.hid (show Ext wk wk from Below.refl _ _)
  go_enter Tryd.func6, Tryd.ntmps6
  go_wp2_with fail
  rw [← hwk]
  clear hwk
  refine Calls.mono (KG.out _ HW.out) ?_
  rintro _ w1 ⟨b, rfl, hE⟩
  have HE1 := Lib.hid (Ext.trans HE0.out hE)
  have HX1 := Lib.hid (Ext.trans HW.out HE1.out)
  clear hE
  obtain ⟨d0_0, d0_1, d0_2⟩ := BX.out _ HE1.out
  cases b with
  | true =>
    go_wp2_with fail
    refine (KA.out _ HX1.out).mono ?_
    intro wz hBz
    have HEz := Lib.hid (Ext.trans HX1.out hBz)
    clear hBz
    go_wp2
    go_ret
    exact ⟨rfl, HEz.out⟩
  | false =>
    go_wp2_with fail
    clear d0_0 d0_1 d0_2
    refine (KC.out _ HX1.out).mono ?_
    intro w2 hE
    have HE2 := Lib.hid (Ext.trans HE1.out hE)
    have HX2 := Lib.hid (Ext.trans HW.out HE2.out)
    clear hE
    obtain ⟨d0_0, d0_1, d0_2⟩ := BX.out _ HE2.out
    by_cases hc : ck = 0
    case neg =>
      have hcb : (ck != 0) = true := bne_iff_ne.2 hc
      go_wp2_with fail
      refine (KA.out _ HX2.out).mono ?_
      intro wz hBz
      have HEz := Lib.hid (Ext.trans HX2.out hBz)
      clear hBz
      go_wp2
      go_ret
      exact ⟨rfl, HEz.out⟩
    case pos =>
      subst hc
      have HVP := Lib.hid (HV.out HCK.out)
      go_wp2_with fail
      clear d0_0 d0_1 d0_2
      go_loopw [24] (fun i wr => ∃ k : Nat, k ≤ p.fs.length ∧ i = .int .i64 (k : Int) ∧ Ext wk wr) (fun i _ => p.fs.length - (intOf i).toNat)
      case atStart => exact ⟨0, Nat.zero_le _, rfl, HE2.out⟩
      case round =>
        obtain ⟨k, hk, rfl, hE⟩ := hrel
        have HE := Lib.hid hE
        have HX := Lib.hid (Ext.trans HW.out HE.out)
        clear hE
        obtain ⟨d0_0, d0_1, d0_2⟩ := BX.out wr HE.out
        by_cases hlt : k < p.fs.length
        case neg =>
          go_wp2_with fail
          refine (KA.out _ HX.out).mono ?_
          intro wz hBz
          have HEz := Lib.hid (Ext.trans HX.out hBz)
          clear hBz
          go_wp2
          go_ret
          exact ⟨rfl, HEz.out⟩
        case pos =>
          obtain ⟨b0, off, ca, cc, hfa, hcs, hir⟩ := HP.out wr HX.out k hlt
          try dsimp only at hfa
          subst hfa
          have HIR := Lib.hid (fun W (hW : Ext wr W) => hir.ext hW)
          have HFN := Lib.hid (HVP.out.fn hlt)
          have HRG := Lib.hid (fun j (hj : j < (p.fs[k]).code.length) => Regs_any HVP.out hlt hj)
          have HNX := Lib.hid (fun j (hj : j < (p.fs[k]).code.length) => nxP_at HCK.out hlt hj)
          have HSH := Lib.hid (fun j (hj : j < (p.fs[k]).code.length) => (HVP.out.fn hlt).ins hj)
          obtain ⟨hr1, hr2, hr3⟩ := regs_ok (HVP.out.fn hlt)
          have hlc : (p.fs[k]).code.length ≤ 200 := (HVP.out.fn hlt).len
          have hwc := (HWF.out.fs _ (List.getElem_mem hlt)).code
          have HOP := Lib.hid (fun j (hj : j < (p.fs[k]).code.length) => (hwc _ (List.getElem_mem hj)).op)
          obtain ⟨c0, c1, c2, c3, c4, c5⟩ := hcs
          have hb0 := cell_lt2 c0
          dsimp only at hb0
          clear hir hwc
          generalize p.fs[k] = g at *
          obtain ⟨nm, pa, re, pr, cl, co⟩ := g
          dsimp only at c0 c1 c2 c3 c4 c5 hr1 hr2 hr3 hlc HIR HFN HRG HNX HSH HOP
          by_cases k0 : k = 0
          case pos =>
            subst k0
            have hpa := hr3 rfl
            subst hpa
            simp only [Nat.zero_mul, Nat.add_zero] at c0 c1 c2 c3 c4 c5
            go_wp2_with fail
            have HFC := Lib.hid (alloc_here wr (.cells #[sV nm, .int .i64 0, .int .i64 re, .int .i64 pr, .bool cl, .slice ca co.length cc] 44))
            have HEWA := Lib.hid (show Ext wr (wr.alloc (.cells #[sV nm, .int .i64 0, .int .i64 re, .int .i64 pr, .bool cl, .slice ca co.length cc] 44)) from ext_alloc (Below.refl _ _) _)
            generalize hwa : wr.alloc (.cells #[sV nm, .int .i64 0, .int .i64 re, .int .i64 pr, .bool cl, .slice ca co.length cc] 44) = wa at *
            clear hwa c0 c1 c2 c3 c4 c5 hb0 hr1 hr2 hr3 d0_0 d0_1 d0_2
            have HKA := Lib.hid (Ext.trans HE.out HEWA.out)
            have HZ := Lib.hid (show Ext wa wa from Below.refl _ _)
            generalize hwr2 : wr.heap.size = fb at *
            clear hwr2
            go_loopw [51] (fun i wr => ∃ j : Nat, j ≤ co.length ∧ i = .int .i64 (j : Int) ∧ Ext wa wr) (fun i _ => co.length - (intOf i).toNat)
            case atStart => exact ⟨0, Nat.zero_le _, rfl, HZ.out⟩
            case round =>
              obtain ⟨j, hj, rfl, hE2⟩ := hrel
              clear HZ
              have HEi := Lib.hid hE2
              have HXi := Lib.hid (Ext.trans HKA.out HEi.out)
              clear hE2
              by_cases hlt2 : j < co.length
              case neg =>
                go_wp2
                go_roundw
                case rel => exact ⟨(0 : Nat) + 1, by omega, by go_num, HXi.out⟩
                case measure => simp [intOf]; try omega
              case pos =>
                obtain ⟨b3, o3, aa, ac, ha3, hc3, hi3, hl3⟩ := HIR.out wr (Ext.trans HEWA.out HEi.out) j hlt2
                subst ha3
                obtain ⟨R1, R2, hRC, hA1, hA2, hS1, hS2, hln2, hln1⟩ := HRG.out j hlt2 aa ac
                obtain ⟨s, ok⟩ := HSH.out j hlt2
                have hshp := ok.shp
                have hnk := HNX.out j hlt2
                have hok := nxt_ok HFN.out hlt2
                have hhas := nxt_has (n := co.length) (x := co[j]) (j := j)
                have hnl := nxI_len co.length co[j] (j : Int)
                have hop := HOP.out j hlt2
                dsimp only at hRC hA1 hA2 hnk hok
                have HRC := Lib.hid (fun W (h1 : IntsAt W aa (co[j]).args) (h2 : (co[j]).args.length ≤ ac) => hRC W h1 h2)
                have HI3A := Lib.hid (fun W (hW : Ext wr W) => hi3.below hW)
                clear ok hRC hi3
                generalize nxI co.length co[j] (j : Int) = NL at *
                generalize co[j] = y at *
                obtain ⟨op, xa, xb, xc, xl⟩ := y
                dsimp only [IV] at hhas hshp hc3 hl3 HRC HI3A hop
                have hoB := outB_any hok
                have HNJ := Lib.hid hnk
                have HA1 := Lib.hid hA1
                have HA2 := Lib.hid hA2
                have HA3 := Lib.hid hoB
                have HS1 := Lib.hid hS1
                have HS2 := Lib.hid hS2
                have HHAS := Lib.hid hhas
                have KV := Lib.hid (fun W => Visible_any op s hshp W)
                have HLC := Lib.hid (loc_canc hshp)
                have hdom := of_decide_eq_true (shp_all (fun k _ => decide ((1 ≤ k ∧ k ≤ 21) ∨ 30 ≤ k)) (by decide) hshp)
                have EN1 := Lib.hid (enters_fn Tryd.func28 (by kernel_rfl) rfl)
                have EN2 := Lib.hid (enters_fn Tryd.func34 (by kernel_rfl) rfl)
                unfold i64 at hop
                obtain ⟨v0, v1, v2, v3, v4⟩ := hc3
                have hd3 := cell_lt2 v0
                dsimp only at hd3
                clear hA1 hA2 hS1 hS2 hhas hshp hnk hok hoB
                rcases hdom with ⟨hd1, hd2⟩ | hd1
                · have hv30 : decide (30 ≤ op) = false := decide_eq_false (by omega)
                  rw [hv30] at KV
                  have HCN := Lib.hid (show cancB op = false from by
                    have h1 := HLC.out
                    have h2 : locB op = true := decide_eq_true ⟨hd1, hd2⟩
                    rw [h2] at h1
                    simpa using h1)
                  clear hv30 HLC
                  go_wp2_with fail
                  have HIC := Lib.hid (alloc_here wr (.cells #[.int .i64 op, .int .i64 xa, .int .i64 xb, .int .i64 xc, .slice aa xl.length ac] 56))
                  have HWB := Lib.hid (show Ext wr (wr.alloc (.cells #[.int .i64 op, .int .i64 xa, .int .i64 xb, .int .i64 xc, .slice aa xl.length ac] 56)) from ext_alloc (Below.refl _ _) _)
                  generalize hwb : wr.alloc (.cells #[.int .i64 op, .int .i64 xa, .int .i64 xb, .int .i64 xc, .slice aa xl.length ac] 56) = wb at *
                  clear hwb v0 v1 v2 v3 v4 hd3
                  generalize hib : wr.heap.size = ib at *
                  clear hib
                  have HWAB := Lib.hid (Ext.trans HEi.out HWB.out)
                  have HEWB := Lib.hid (Ext.trans HXi.out HWB.out)
                  have HXWB := Lib.hid (Ext.trans HW.out HEWB.out)
                  have KF := Lib.hid (fun W (hW : Ext wb W) => show W.cell? ⟨fb, 2, none⟩ = some (.int .i64 re) ∧ W.cell? ⟨fb, 5, none⟩ = some (.slice (some ⟨b3, o3, none⟩) co.length cc) from by
                    have h1 := ((Ext.trans HWAB.out hW).below.block _ (lt_of_block HFC.out)).trans HFC.out
                    exact ⟨cell_of h1 rfl, cell_of h1 rfl⟩)
                  have KI := Lib.hid (fun W (hW : Ext wb W) => show W.cell? ⟨ib, 0, none⟩ = some (.int .i64 op) ∧ W.cell? ⟨ib, 1, none⟩ = some (.int .i64 xa) ∧ W.cell? ⟨ib, 2, none⟩ = some (.int .i64 xb) ∧ W.cell? ⟨ib, 3, none⟩ = some (.int .i64 xc) ∧ W.cell? ⟨ib, 4, none⟩ = some (.slice aa xl.length ac) from by
                    have h1 := (hW.below.block _ (lt_of_block HIC.out)).trans HIC.out
                    exact ⟨cell_of h1 rfl, cell_of h1 rfl, cell_of h1 rfl, cell_of h1 rfl, cell_of h1 rfl⟩)
                  refine (HRC.out wb (HI3A.out wb HWB.out) hl3).mono ?_
                  rintro _ w4 ⟨vv1, vv2, rfl, hR1, hR2, hE⟩
                  obtain ⟨a1, c1, rfl, hI1, _, _⟩ := hR1.ints
                  obtain ⟨a2, c2', rfl, hI2, _, _⟩ := hR2.ints
                  have HI1 := Lib.hid (fun W (hW : Ext w4 W) => hI1.below hW)
                  have HI2 := Lib.hid (fun W (hW : Ext w4 W) => hI2.below hW)
                  have HB4 := Lib.hid (show Ext wb w4 from hE)
                  clear hE hR1 hR2 hI1 hI2
                  obtain ⟨m0, m1, m2, m3, m4⟩ := KI.out w4 HB4.out
                  go_wp2_with fail
                  clear m0 m1 m2 m3 m4
                  refine (KV.out _).mono ?_
                  intro w41 hE
                  have HB41 := Lib.hid (Ext.trans HB4.out hE)
                  have HE41 := Lib.hid (show Ext w4 w41 from hE)
                  clear hE
                  obtain ⟨m0, m1, m2, m3, m4⟩ := KI.out w41 HB41.out
                  go_wp2_with fail
                  clear m0 m1 m2 m3 m4
                  refine (Cancel_any op _).mono ?_
                  intro w42 hE
                  have HB42 := Lib.hid (Ext.trans HB41.out hE)
                  have HE42 := Lib.hid (Ext.trans HE41.out hE)
                  clear hE
                  rw [HCN.out]
                  -- the registers
                  go_wp2_with fail
                  refine (ContainsInt_any R1 a1 c1 28 #[.pointer (some ⟨fb, 0, none⟩)] (outB re) _ (HI1.out _ HE42.out) (by omega) EN1.out (fun q hq W hW => valid1_any _ _ _ _ (KF.out W (Ext.trans HB42.out hW)).1)).mono ?_
                  intro w5 hE
                  rw [HA1.out]
                  have HB5 := Lib.hid (Ext.trans HB42.out hE)
                  have HE5 := Lib.hid (Ext.trans HE42.out hE)
                  clear hE
                  go_wp2_with fail
                  refine (ContainsInt_any R2 a2 c2' 28 #[.pointer (some ⟨fb, 0, none⟩)] (outB re) _ (HI2.out _ HE5.out) (by omega) EN1.out (fun q hq W hW => valid1_any _ _ _ _ (KF.out W (Ext.trans HB5.out hW)).1)).mono ?_
                  intro w6 hE
                  rw [HA2.out]
                  have HB6 := Lib.hid (Ext.trans HB5.out hE)
                  have HE6 := Lib.hid (Ext.trans HE5.out hE)
                  clear hE
                  go_wp2_with fail
                  refine (IsSorted_any R1 a1 c1 _ (by omega) (HI1.out _ HE6.out) HS1.out).mono ?_
                  intro w7 hE
                  have HB7 := Lib.hid (Ext.trans HB6.out hE)
                  have HE7 := Lib.hid (Ext.trans HE6.out hE)
                  clear hE
                  go_wp2_with fail
                  refine (IsSorted_any R2 a2 c2' _ (by omega) (HI2.out _ HE7.out) HS2.out).mono ?_
                  intro w8 hE
                  have HB8 := Lib.hid (Ext.trans HB7.out hE)
                  have HE8 := Lib.hid (Ext.trans HE7.out hE)
                  clear hE
                  obtain ⟨d0_0, d0_1, d0_2⟩ := BX.out w8 (Ext.trans HEWB.out HB8.out)
                  obtain ⟨m0, m1, m2, m3, m4⟩ := KI.out w8 HB8.out
                  go_wp2_with fail
                  clear d0_0 d0_1 d0_2 m0 m1 m2 m3 m4
                  refine (KN.out ((0 : Nat) : Int) (j : Int) (by unfold i64; omega) (by unfold i64; omega) _ (Ext.trans HXWB.out HB8.out)).mono ?_
                  rintro _ w9 ⟨v3, rfl, hR3, hE⟩
                  obtain ⟨a3, c3', rfl, hI3, _, _⟩ := hR3.ints
                  rw [HNJ.out] at hI3 ⊢
                  have HI3 := Lib.hid (fun W (hW : Ext w9 W) => hI3.below hW)
                  have HB9 := Lib.hid (Ext.trans HB8.out hE)
                  clear hE hI3 hR3
                  go_wp2_with fail
                  refine (ContainsInt_any NL a3 c3' 34 #[.pointer (some ⟨fb, 0, none⟩)] (outB (co.length : Int)) _ (HI3.out _ (Below.refl _ _)) (by omega) EN2.out (fun q hq W hW => valid2_any _ _ _ _ _ _ (by omega) (KF.out W (Ext.trans HB9.out hW)).2)).mono ?_
                  intro w10 hE
                  rw [HA3.out]
                  have HB10 := Lib.hid (Ext.trans HB9.out hE)
                  have HE10 := Lib.hid hE
                  clear hE
                  obtain ⟨m0, m1, m2, m3, m4⟩ := KI.out w10 HB10.out
                  obtain ⟨n2, n5⟩ := KF.out w10 HB10.out
                  by_cases o16 : op = 16
                  case pos =>
                    subst o16
                    go_wp2
                    go_roundw
                    case rel => exact ⟨j + 1, by omega, by go_num, Ext.trans HWAB.out HB10.out⟩
                    case measure => simp [intOf]; omega
                  case neg =>
                    by_cases o21 : op = 21
                    case pos =>
                      subst o21
                      go_wp2
                      go_roundw
                      case rel => exact ⟨j + 1, by omega, by go_num, Ext.trans HWAB.out HB10.out⟩
                      case measure => simp [intOf]; omega
                    case neg =>
                      by_cases o13 : op = 13
                      case pos =>
                        subst o13
                        go_wp2
                        go_roundw
                        case rel => exact ⟨j + 1, by omega, by go_num, Ext.trans HWAB.out HB10.out⟩
                        case measure => simp [intOf]; omega
                      case neg =>
                        have q16 : (op == 16) = false := beq_eq_false_iff_ne.2 o16
                        have q21 : (op == 21) = false := beq_eq_false_iff_ne.2 o21
                        have q13 : (op == 13) = false := beq_eq_false_iff_ne.2 o13
                        by_cases hnx : (j : Int) + 1 < (co.length : Int)
                        case neg =>
                          go_wp2
                          go_roundw
                          case rel => exact ⟨j + 1, by omega, by go_num, Ext.trans HWAB.out HB10.out⟩
                          case measure => simp [intOf]; omega
                        case pos =>
                          have HHS := Lib.hid (HHAS.out (by omega) hnx)
                          go_wp2_with fail
                          clear m0 m1 m2 m3 m4 n2 n5
                          refine Calls.mono (Contains1_any NL ((j : Int) + 1) a3 c3' _ (HI3.out _ HE10.out) (by omega)) ?_
                          rintro _ w11 ⟨rfl, hw11⟩
                          rw [hw11, HHS.out]
                          clear hw11 w11
                          go_wp2
                          go_roundw
                          case rel => exact ⟨j + 1, by omega, by go_num, Ext.trans HWAB.out HB10.out⟩
                          case measure => simp [intOf]; omega

                · have hv30 : decide (30 ≤ op) = true := decide_eq_true hd1
                  rw [hv30] at KV
                  have hd0 : 1 ≤ op := by omega
                  have hd2 : ¬ op ≤ 21 := by omega
                  clear hv30 HLC
                  go_wp2_with fail
                  have HIC := Lib.hid (alloc_here wr (.cells #[.int .i64 op, .int .i64 xa, .int .i64 xb, .int .i64 xc, .slice aa xl.length ac] 56))
                  have HWB := Lib.hid (show Ext wr (wr.alloc (.cells #[.int .i64 op, .int .i64 xa, .int .i64 xb, .int .i64 xc, .slice aa xl.length ac] 56)) from ext_alloc (Below.refl _ _) _)
                  generalize hwb : wr.alloc (.cells #[.int .i64 op, .int .i64 xa, .int .i64 xb, .int .i64 xc, .slice aa xl.length ac] 56) = wb at *
                  clear hwb v0 v1 v2 v3 v4 hd3
                  generalize hib : wr.heap.size = ib at *
                  clear hib
                  have HWAB := Lib.hid (Ext.trans HEi.out HWB.out)
                  have HEWB := Lib.hid (Ext.trans HXi.out HWB.out)
                  have HXWB := Lib.hid (Ext.trans HW.out HEWB.out)
                  have KF := Lib.hid (fun W (hW : Ext wb W) => show W.cell? ⟨fb, 2, none⟩ = some (.int .i64 re) ∧ W.cell? ⟨fb, 5, none⟩ = some (.slice (some ⟨b3, o3, none⟩) co.length cc) from by
                    have h1 := ((Ext.trans HWAB.out hW).below.block _ (lt_of_block HFC.out)).trans HFC.out
                    exact ⟨cell_of h1 rfl, cell_of h1 rfl⟩)
                  have KI := Lib.hid (fun W (hW : Ext wb W) => show W.cell? ⟨ib, 0, none⟩ = some (.int .i64 op) ∧ W.cell? ⟨ib, 1, none⟩ = some (.int .i64 xa) ∧ W.cell? ⟨ib, 2, none⟩ = some (.int .i64 xb) ∧ W.cell? ⟨ib, 3, none⟩ = some (.int .i64 xc) ∧ W.cell? ⟨ib, 4, none⟩ = some (.slice aa xl.length ac) from by
                    have h1 := (hW.below.block _ (lt_of_block HIC.out)).trans HIC.out
                    exact ⟨cell_of h1 rfl, cell_of h1 rfl, cell_of h1 rfl, cell_of h1 rfl, cell_of h1 rfl⟩)
                  refine (HRC.out wb (HI3A.out wb HWB.out) hl3).mono ?_
                  rintro _ w4 ⟨vv1, vv2, rfl, hR1, hR2, hE⟩
                  obtain ⟨a1, c1, rfl, hI1, _, _⟩ := hR1.ints
                  obtain ⟨a2, c2', rfl, hI2, _, _⟩ := hR2.ints
                  have HI1 := Lib.hid (fun W (hW : Ext w4 W) => hI1.below hW)
                  have HI2 := Lib.hid (fun W (hW : Ext w4 W) => hI2.below hW)
                  have HB4 := Lib.hid (show Ext wb w4 from hE)
                  clear hE hR1 hR2 hI1 hI2
                  obtain ⟨m0, m1, m2, m3, m4⟩ := KI.out w4 HB4.out
                  go_wp2_with fail
                  clear m0 m1 m2 m3 m4
                  refine (KV.out _).mono ?_
                  intro w41 hE
                  have HB41 := Lib.hid (Ext.trans HB4.out hE)
                  have HE41 := Lib.hid (show Ext w4 w41 from hE)
                  clear hE
                  obtain ⟨m0, m1, m2, m3, m4⟩ := KI.out w41 HB41.out
                  go_wp2_with fail
                  clear m0 m1 m2 m3 m4
                  refine (Cancel_any op _).mono ?_
                  intro w42 hE
                  have HB42 := Lib.hid (Ext.trans HB41.out hE)
                  have HE42 := Lib.hid (Ext.trans HE41.out hE)
                  clear hE
                  obtain ⟨cn, hcn⟩ : ∃ c, cancB op = c := ⟨_, rfl⟩
                  rw [hcn]
                  clear hcn
                  cases cn with
                  | true =>
                    -- the registers
                    go_wp2_with fail
                    refine (ContainsInt_any R1 a1 c1 28 #[.pointer (some ⟨fb, 0, none⟩)] (outB re) _ (HI1.out _ HE42.out) (by omega) EN1.out (fun q hq W hW => valid1_any _ _ _ _ (KF.out W (Ext.trans HB42.out hW)).1)).mono ?_
                    intro w5 hE
                    rw [HA1.out]
                    have HB5 := Lib.hid (Ext.trans HB42.out hE)
                    have HE5 := Lib.hid (Ext.trans HE42.out hE)
                    clear hE
                    go_wp2_with fail
                    refine (ContainsInt_any R2 a2 c2' 28 #[.pointer (some ⟨fb, 0, none⟩)] (outB re) _ (HI2.out _ HE5.out) (by omega) EN1.out (fun q hq W hW => valid1_any _ _ _ _ (KF.out W (Ext.trans HB5.out hW)).1)).mono ?_
                    intro w6 hE
                    rw [HA2.out]
                    have HB6 := Lib.hid (Ext.trans HB5.out hE)
                    have HE6 := Lib.hid (Ext.trans HE5.out hE)
                    clear hE
                    go_wp2_with fail
                    refine (IsSorted_any R1 a1 c1 _ (by omega) (HI1.out _ HE6.out) HS1.out).mono ?_
                    intro w7 hE
                    have HB7 := Lib.hid (Ext.trans HB6.out hE)
                    have HE7 := Lib.hid (Ext.trans HE6.out hE)
                    clear hE
                    go_wp2_with fail
                    refine (IsSorted_any R2 a2 c2' _ (by omega) (HI2.out _ HE7.out) HS2.out).mono ?_
                    intro w8 hE
                    have HB8 := Lib.hid (Ext.trans HB7.out hE)
                    have HE8 := Lib.hid (Ext.trans HE7.out hE)
                    clear hE
                    obtain ⟨d0_0, d0_1, d0_2⟩ := BX.out w8 (Ext.trans HEWB.out HB8.out)
                    obtain ⟨m0, m1, m2, m3, m4⟩ := KI.out w8 HB8.out
                    go_wp2_with fail
                    clear d0_0 d0_1 d0_2 m0 m1 m2 m3 m4
                    refine (KN.out ((0 : Nat) : Int) (j : Int) (by unfold i64; omega) (by unfold i64; omega) _ (Ext.trans HXWB.out HB8.out)).mono ?_
                    rintro _ w9 ⟨v3, rfl, hR3, hE⟩
                    obtain ⟨a3, c3', rfl, hI3, _, _⟩ := hR3.ints
                    rw [HNJ.out] at hI3 ⊢
                    have HI3 := Lib.hid (fun W (hW : Ext w9 W) => hI3.below hW)
                    have HB9 := Lib.hid (Ext.trans HB8.out hE)
                    clear hE hI3 hR3
                    go_wp2_with fail
                    refine (ContainsInt_any NL a3 c3' 34 #[.pointer (some ⟨fb, 0, none⟩)] (outB (co.length : Int)) _ (HI3.out _ (Below.refl _ _)) (by omega) EN2.out (fun q hq W hW => valid2_any _ _ _ _ _ _ (by omega) (KF.out W (Ext.trans HB9.out hW)).2)).mono ?_
                    intro w10 hE
                    rw [HA3.out]
                    have HB10 := Lib.hid (Ext.trans HB9.out hE)
                    have HE10 := Lib.hid hE
                    clear hE
                    obtain ⟨m0, m1, m2, m3, m4⟩ := KI.out w10 HB10.out
                    obtain ⟨n2, n5⟩ := KF.out w10 HB10.out
                    have o16 : ¬ op = 16 := by omega
                    have q16 : (op == 16) = false := beq_eq_false_iff_ne.2 o16
                    have o21 : ¬ op = 21 := by omega
                    have q21 : (op == 21) = false := beq_eq_false_iff_ne.2 o21
                    have o13 : ¬ op = 13 := by omega
                    have q13 : (op == 13) = false := beq_eq_false_iff_ne.2 o13
                    by_cases hnx : (j : Int) + 1 < (co.length : Int)
                    case neg =>
                      go_wp2
                      go_roundw
                      case rel => exact ⟨j + 1, by omega, by go_num, Ext.trans HWAB.out HB10.out⟩
                      case measure => simp [intOf]; omega
                    case pos =>
                      have HHS := Lib.hid (HHAS.out (by omega) hnx)
                      go_wp2_with fail
                      clear m0 m1 m2 m3 m4 n2 n5
                      refine Calls.mono (Contains1_any NL ((j : Int) + 1) a3 c3' _ (HI3.out _ HE10.out) (by omega)) ?_
                      rintro _ w11 ⟨rfl, hw11⟩
                      rw [hw11, HHS.out]
                      clear hw11 w11
                      go_wp2
                      go_roundw
                      case rel => exact ⟨j + 1, by omega, by go_num, Ext.trans HWAB.out HB10.out⟩
                      case measure => simp [intOf]; omega

                  | false =>
                    -- the registers
                    go_wp2_with fail
                    refine (ContainsInt_any R1 a1 c1 28 #[.pointer (some ⟨fb, 0, none⟩)] (outB re) _ (HI1.out _ HE42.out) (by omega) EN1.out (fun q hq W hW => valid1_any _ _ _ _ (KF.out W (Ext.trans HB42.out hW)).1)).mono ?_
                    intro w5 hE
                    rw [HA1.out]
                    have HB5 := Lib.hid (Ext.trans HB42.out hE)
                    have HE5 := Lib.hid (Ext.trans HE42.out hE)
                    clear hE
                    go_wp2_with fail
                    refine (ContainsInt_any R2 a2 c2' 28 #[.pointer (some ⟨fb, 0, none⟩)] (outB re) _ (HI2.out _ HE5.out) (by omega) EN1.out (fun q hq W hW => valid1_any _ _ _ _ (KF.out W (Ext.trans HB5.out hW)).1)).mono ?_
                    intro w6 hE
                    rw [HA2.out]
                    have HB6 := Lib.hid (Ext.trans HB5.out hE)
                    have HE6 := Lib.hid (Ext.trans HE5.out hE)
                    clear hE
                    go_wp2_with fail
                    refine (IsSorted_any R1 a1 c1 _ (by omega) (HI1.out _ HE6.out) HS1.out).mono ?_
                    intro w7 hE
                    have HB7 := Lib.hid (Ext.trans HB6.out hE)
                    have HE7 := Lib.hid (Ext.trans HE6.out hE)
                    clear hE
                    go_wp2_with fail
                    refine (IsSorted_any R2 a2 c2' _ (by omega) (HI2.out _ HE7.out) HS2.out).mono ?_
                    intro w8 hE
                    have HB8 := Lib.hid (Ext.trans HB7.out hE)
                    have HE8 := Lib.hid (Ext.trans HE7.out hE)
                    clear hE
                    obtain ⟨d0_0, d0_1, d0_2⟩ := BX.out w8 (Ext.trans HEWB.out HB8.out)
                    obtain ⟨m0, m1, m2, m3, m4⟩ := KI.out w8 HB8.out
                    go_wp2_with fail
                    clear d0_0 d0_1 d0_2 m0 m1 m2 m3 m4
                    refine (KN.out ((0 : Nat) : Int) (j : Int) (by unfold i64; omega) (by unfold i64; omega) _ (Ext.trans HXWB.out HB8.out)).mono ?_
                    rintro _ w9 ⟨v3, rfl, hR3, hE⟩
                    obtain ⟨a3, c3', rfl, hI3, _, _⟩ := hR3.ints
                    rw [HNJ.out] at hI3 ⊢
                    have HI3 := Lib.hid (fun W (hW : Ext w9 W) => hI3.below hW)
                    have HB9 := Lib.hid (Ext.trans HB8.out hE)
                    clear hE hI3 hR3
                    go_wp2_with fail
                    refine (ContainsInt_any NL a3 c3' 34 #[.pointer (some ⟨fb, 0, none⟩)] (outB (co.length : Int)) _ (HI3.out _ (Below.refl _ _)) (by omega) EN2.out (fun q hq W hW => valid2_any _ _ _ _ _ _ (by omega) (KF.out W (Ext.trans HB9.out hW)).2)).mono ?_
                    intro w10 hE
                    rw [HA3.out]
                    have HB10 := Lib.hid (Ext.trans HB9.out hE)
                    have HE10 := Lib.hid hE
                    clear hE
                    obtain ⟨m0, m1, m2, m3, m4⟩ := KI.out w10 HB10.out
                    obtain ⟨n2, n5⟩ := KF.out w10 HB10.out
                    have o16 : ¬ op = 16 := by omega
                    have q16 : (op == 16) = false := beq_eq_false_iff_ne.2 o16
                    have o21 : ¬ op = 21 := by omega
                    have q21 : (op == 21) = false := beq_eq_false_iff_ne.2 o21
                    have o13 : ¬ op = 13 := by omega
                    have q13 : (op == 13) = false := beq_eq_false_iff_ne.2 o13
                    by_cases hnx : (j : Int) + 1 < (co.length : Int)
                    case neg =>
                      go_wp2
                      go_roundw
                      case rel => exact ⟨j + 1, by omega, by go_num, Ext.trans HWAB.out HB10.out⟩
                      case measure => simp [intOf]; omega
                    case pos =>
                      have HHS := Lib.hid (HHAS.out (by omega) hnx)
                      go_wp2_with fail
                      clear m0 m1 m2 m3 m4 n2 n5
                      refine Calls.mono (Contains1_any NL ((j : Int) + 1) a3 c3' _ (HI3.out _ HE10.out) (by omega)) ?_
                      rintro _ w11 ⟨rfl, hw11⟩
                      rw [hw11, HHS.out]
                      clear hw11 w11
                      go_wp2
                      go_roundw
                      case rel => exact ⟨j + 1, by omega, by go_num, Ext.trans HWAB.out HB10.out⟩
                      case measure => simp [intOf]; omega
          case neg =>
            have hk0 : ((k : Int) == 0) = false := beq_eq_false_iff_ne.2 (by omega)
            go_wp2_with fail
            have HFC := Lib.hid (alloc_here wr (.cells #[sV nm, .int .i64 pa, .int .i64 re, .int .i64 pr, .bool cl, .slice ca co.length cc] 44))
            have HEWA := Lib.hid (show Ext wr (wr.alloc (.cells #[sV nm, .int .i64 pa, .int .i64 re, .int .i64 pr, .bool cl, .slice ca co.length cc] 44)) from ext_alloc (Below.refl _ _) _)
            generalize hwa : wr.alloc (.cells #[sV nm, .int .i64 pa, .int .i64 re, .int .i64 pr, .bool cl, .slice ca co.length cc] 44) = wa at *
            clear hwa c0 c1 c2 c3 c4 c5 hb0 hr1 hr2 hr3 d0_0 d0_1 d0_2
            have HKA := Lib.hid (Ext.trans HE.out HEWA.out)
            have HZ := Lib.hid (show Ext wa wa from Below.refl _ _)
            generalize hwr2 : wr.heap.size = fb at *
            clear hwr2
            go_loopw [51] (fun i wr => ∃ j : Nat, j ≤ co.length ∧ i = .int .i64 (j : Int) ∧ Ext wa wr) (fun i _ => co.length - (intOf i).toNat)
            case atStart => exact ⟨0, Nat.zero_le _, rfl, HZ.out⟩
            case round =>
              obtain ⟨j, hj, rfl, hE2⟩ := hrel
              clear HZ
              have HEi := Lib.hid hE2
              have HXi := Lib.hid (Ext.trans HKA.out HEi.out)
              clear hE2
              by_cases hlt2 : j < co.length
              case neg =>
                go_wp2
                go_roundw
                case rel => exact ⟨k + 1, by omega, by go_num, HXi.out⟩
                case measure => simp [intOf]; try omega
              case pos =>
                obtain ⟨b3, o3, aa, ac, ha3, hc3, hi3, hl3⟩ := HIR.out wr (Ext.trans HEWA.out HEi.out) j hlt2
                subst ha3
                obtain ⟨R1, R2, hRC, hA1, hA2, hS1, hS2, hln2, hln1⟩ := HRG.out j hlt2 aa ac
                obtain ⟨s, ok⟩ := HSH.out j hlt2
                have hshp := ok.shp
                have hnk := HNX.out j hlt2
                have hok := nxt_ok HFN.out hlt2
                have hhas := nxt_has (n := co.length) (x := co[j]) (j := j)
                have hnl := nxI_len co.length co[j] (j : Int)
                have hop := HOP.out j hlt2
                dsimp only at hRC hA1 hA2 hnk hok
                have HRC := Lib.hid (fun W (h1 : IntsAt W aa (co[j]).args) (h2 : (co[j]).args.length ≤ ac) => hRC W h1 h2)
                have HI3A := Lib.hid (fun W (hW : Ext wr W) => hi3.below hW)
                clear ok hRC hi3
                generalize nxI co.length co[j] (j : Int) = NL at *
                generalize co[j] = y at *
                obtain ⟨op, xa, xb, xc, xl⟩ := y
                dsimp only [IV] at hhas hshp hc3 hl3 HRC HI3A hop
                have hoB := outB_any hok
                have HNJ := Lib.hid hnk
                have HA1 := Lib.hid hA1
                have HA2 := Lib.hid hA2
                have HA3 := Lib.hid hoB
                have HS1 := Lib.hid hS1
                have HS2 := Lib.hid hS2
                have HHAS := Lib.hid hhas
                have KV := Lib.hid (fun W => Visible_any op s hshp W)
                have HLC := Lib.hid (loc_canc hshp)
                have hdom := of_decide_eq_true (shp_all (fun k _ => decide ((1 ≤ k ∧ k ≤ 21) ∨ 30 ≤ k)) (by decide) hshp)
                have EN1 := Lib.hid (enters_fn Tryd.func28 (by kernel_rfl) rfl)
                have EN2 := Lib.hid (enters_fn Tryd.func34 (by kernel_rfl) rfl)
                unfold i64 at hop
                obtain ⟨v0, v1, v2, v3, v4⟩ := hc3
                have hd3 := cell_lt2 v0
                dsimp only at hd3
                clear hA1 hA2 hS1 hS2 hhas hshp hnk hok hoB
                rcases hdom with ⟨hd1, hd2⟩ | hd1
                · have hv30 : decide (30 ≤ op) = false := decide_eq_false (by omega)
                  rw [hv30] at KV
                  have HCN := Lib.hid (show cancB op = false from by
                    have h1 := HLC.out
                    have h2 : locB op = true := decide_eq_true ⟨hd1, hd2⟩
                    rw [h2] at h1
                    simpa using h1)
                  clear hv30 HLC
                  go_wp2_with fail
                  have HIC := Lib.hid (alloc_here wr (.cells #[.int .i64 op, .int .i64 xa, .int .i64 xb, .int .i64 xc, .slice aa xl.length ac] 56))
                  have HWB := Lib.hid (show Ext wr (wr.alloc (.cells #[.int .i64 op, .int .i64 xa, .int .i64 xb, .int .i64 xc, .slice aa xl.length ac] 56)) from ext_alloc (Below.refl _ _) _)
                  generalize hwb : wr.alloc (.cells #[.int .i64 op, .int .i64 xa, .int .i64 xb, .int .i64 xc, .slice aa xl.length ac] 56) = wb at *
                  clear hwb v0 v1 v2 v3 v4 hd3
                  generalize hib : wr.heap.size = ib at *
                  clear hib
                  have HWAB := Lib.hid (Ext.trans HEi.out HWB.out)
                  have HEWB := Lib.hid (Ext.trans HXi.out HWB.out)
                  have HXWB := Lib.hid (Ext.trans HW.out HEWB.out)
                  have KF := Lib.hid (fun W (hW : Ext wb W) => show W.cell? ⟨fb, 2, none⟩ = some (.int .i64 re) ∧ W.cell? ⟨fb, 5, none⟩ = some (.slice (some ⟨b3, o3, none⟩) co.length cc) from by
                    have h1 := ((Ext.trans HWAB.out hW).below.block _ (lt_of_block HFC.out)).trans HFC.out
                    exact ⟨cell_of h1 rfl, cell_of h1 rfl⟩)
                  have KI := Lib.hid (fun W (hW : Ext wb W) => show W.cell? ⟨ib, 0, none⟩ = some (.int .i64 op) ∧ W.cell? ⟨ib, 1, none⟩ = some (.int .i64 xa) ∧ W.cell? ⟨ib, 2, none⟩ = some (.int .i64 xb) ∧ W.cell? ⟨ib, 3, none⟩ = some (.int .i64 xc) ∧ W.cell? ⟨ib, 4, none⟩ = some (.slice aa xl.length ac) from by
                    have h1 := (hW.below.block _ (lt_of_block HIC.out)).trans HIC.out
                    exact ⟨cell_of h1 rfl, cell_of h1 rfl, cell_of h1 rfl, cell_of h1 rfl, cell_of h1 rfl⟩)
                  refine (HRC.out wb (HI3A.out wb HWB.out) hl3).mono ?_
                  rintro _ w4 ⟨vv1, vv2, rfl, hR1, hR2, hE⟩
                  obtain ⟨a1, c1, rfl, hI1, _, _⟩ := hR1.ints
                  obtain ⟨a2, c2', rfl, hI2, _, _⟩ := hR2.ints
                  have HI1 := Lib.hid (fun W (hW : Ext w4 W) => hI1.below hW)
                  have HI2 := Lib.hid (fun W (hW : Ext w4 W) => hI2.below hW)
                  have HB4 := Lib.hid (show Ext wb w4 from hE)
                  clear hE hR1 hR2 hI1 hI2
                  obtain ⟨m0, m1, m2, m3, m4⟩ := KI.out w4 HB4.out
                  go_wp2_with fail
                  clear m0 m1 m2 m3 m4
                  refine (KV.out _).mono ?_
                  intro w41 hE
                  have HB41 := Lib.hid (Ext.trans HB4.out hE)
                  have HE41 := Lib.hid (show Ext w4 w41 from hE)
                  clear hE
                  obtain ⟨m0, m1, m2, m3, m4⟩ := KI.out w41 HB41.out
                  go_wp2_with fail
                  clear m0 m1 m2 m3 m4
                  refine (Cancel_any op _).mono ?_
                  intro w42 hE
                  have HB42 := Lib.hid (Ext.trans HB41.out hE)
                  have HE42 := Lib.hid (Ext.trans HE41.out hE)
                  clear hE
                  rw [HCN.out]
                  -- the registers
                  go_wp2_with fail
                  refine (ContainsInt_any R1 a1 c1 28 #[.pointer (some ⟨fb, 0, none⟩)] (outB re) _ (HI1.out _ HE42.out) (by omega) EN1.out (fun q hq W hW => valid1_any _ _ _ _ (KF.out W (Ext.trans HB42.out hW)).1)).mono ?_
                  intro w5 hE
                  rw [HA1.out]
                  have HB5 := Lib.hid (Ext.trans HB42.out hE)
                  have HE5 := Lib.hid (Ext.trans HE42.out hE)
                  clear hE
                  go_wp2_with fail
                  refine (ContainsInt_any R2 a2 c2' 28 #[.pointer (some ⟨fb, 0, none⟩)] (outB re) _ (HI2.out _ HE5.out) (by omega) EN1.out (fun q hq W hW => valid1_any _ _ _ _ (KF.out W (Ext.trans HB5.out hW)).1)).mono ?_
                  intro w6 hE
                  rw [HA2.out]
                  have HB6 := Lib.hid (Ext.trans HB5.out hE)
                  have HE6 := Lib.hid (Ext.trans HE5.out hE)
                  clear hE
                  go_wp2_with fail
                  refine (IsSorted_any R1 a1 c1 _ (by omega) (HI1.out _ HE6.out) HS1.out).mono ?_
                  intro w7 hE
                  have HB7 := Lib.hid (Ext.trans HB6.out hE)
                  have HE7 := Lib.hid (Ext.trans HE6.out hE)
                  clear hE
                  go_wp2_with fail
                  refine (IsSorted_any R2 a2 c2' _ (by omega) (HI2.out _ HE7.out) HS2.out).mono ?_
                  intro w8 hE
                  have HB8 := Lib.hid (Ext.trans HB7.out hE)
                  have HE8 := Lib.hid (Ext.trans HE7.out hE)
                  clear hE
                  obtain ⟨d0_0, d0_1, d0_2⟩ := BX.out w8 (Ext.trans HEWB.out HB8.out)
                  obtain ⟨m0, m1, m2, m3, m4⟩ := KI.out w8 HB8.out
                  go_wp2_with fail
                  clear d0_0 d0_1 d0_2 m0 m1 m2 m3 m4
                  refine (KN.out (k : Int) (j : Int) (by unfold i64; omega) (by unfold i64; omega) _ (Ext.trans HXWB.out HB8.out)).mono ?_
                  rintro _ w9 ⟨v3, rfl, hR3, hE⟩
                  obtain ⟨a3, c3', rfl, hI3, _, _⟩ := hR3.ints
                  rw [HNJ.out] at hI3 ⊢
                  have HI3 := Lib.hid (fun W (hW : Ext w9 W) => hI3.below hW)
                  have HB9 := Lib.hid (Ext.trans HB8.out hE)
                  clear hE hI3 hR3
                  go_wp2_with fail
                  refine (ContainsInt_any NL a3 c3' 34 #[.pointer (some ⟨fb, 0, none⟩)] (outB (co.length : Int)) _ (HI3.out _ (Below.refl _ _)) (by omega) EN2.out (fun q hq W hW => valid2_any _ _ _ _ _ _ (by omega) (KF.out W (Ext.trans HB9.out hW)).2)).mono ?_
                  intro w10 hE
                  rw [HA3.out]
                  have HB10 := Lib.hid (Ext.trans HB9.out hE)
                  have HE10 := Lib.hid hE
                  clear hE
                  obtain ⟨m0, m1, m2, m3, m4⟩ := KI.out w10 HB10.out
                  obtain ⟨n2, n5⟩ := KF.out w10 HB10.out
                  by_cases o16 : op = 16
                  case pos =>
                    subst o16
                    go_wp2
                    go_roundw
                    case rel => exact ⟨j + 1, by omega, by go_num, Ext.trans HWAB.out HB10.out⟩
                    case measure => simp [intOf]; omega
                  case neg =>
                    by_cases o21 : op = 21
                    case pos =>
                      subst o21
                      go_wp2
                      go_roundw
                      case rel => exact ⟨j + 1, by omega, by go_num, Ext.trans HWAB.out HB10.out⟩
                      case measure => simp [intOf]; omega
                    case neg =>
                      by_cases o13 : op = 13
                      case pos =>
                        subst o13
                        go_wp2
                        go_roundw
                        case rel => exact ⟨j + 1, by omega, by go_num, Ext.trans HWAB.out HB10.out⟩
                        case measure => simp [intOf]; omega
                      case neg =>
                        have q16 : (op == 16) = false := beq_eq_false_iff_ne.2 o16
                        have q21 : (op == 21) = false := beq_eq_false_iff_ne.2 o21
                        have q13 : (op == 13) = false := beq_eq_false_iff_ne.2 o13
                        by_cases hnx : (j : Int) + 1 < (co.length : Int)
                        case neg =>
                          go_wp2
                          go_roundw
                          case rel => exact ⟨j + 1, by omega, by go_num, Ext.trans HWAB.out HB10.out⟩
                          case measure => simp [intOf]; omega
                        case pos =>
                          have HHS := Lib.hid (HHAS.out (by omega) hnx)
                          go_wp2_with fail
                          clear m0 m1 m2 m3 m4 n2 n5
                          refine Calls.mono (Contains1_any NL ((j : Int) + 1) a3 c3' _ (HI3.out _ HE10.out) (by omega)) ?_
                          rintro _ w11 ⟨rfl, hw11⟩
                          rw [hw11, HHS.out]
                          clear hw11 w11
                          go_wp2
                          go_roundw
                          case rel => exact ⟨j + 1, by omega, by go_num, Ext.trans HWAB.out HB10.out⟩
                          case measure => simp [intOf]; omega

                · have hv30 : decide (30 ≤ op) = true := decide_eq_true hd1
                  rw [hv30] at KV
                  have hd0 : 1 ≤ op := by omega
                  have hd2 : ¬ op ≤ 21 := by omega
                  clear hv30 HLC
                  go_wp2_with fail
                  have HIC := Lib.hid (alloc_here wr (.cells #[.int .i64 op, .int .i64 xa, .int .i64 xb, .int .i64 xc, .slice aa xl.length ac] 56))
                  have HWB := Lib.hid (show Ext wr (wr.alloc (.cells #[.int .i64 op, .int .i64 xa, .int .i64 xb, .int .i64 xc, .slice aa xl.length ac] 56)) from ext_alloc (Below.refl _ _) _)
                  generalize hwb : wr.alloc (.cells #[.int .i64 op, .int .i64 xa, .int .i64 xb, .int .i64 xc, .slice aa xl.length ac] 56) = wb at *
                  clear hwb v0 v1 v2 v3 v4 hd3
                  generalize hib : wr.heap.size = ib at *
                  clear hib
                  have HWAB := Lib.hid (Ext.trans HEi.out HWB.out)
                  have HEWB := Lib.hid (Ext.trans HXi.out HWB.out)
                  have HXWB := Lib.hid (Ext.trans HW.out HEWB.out)
                  have KF := Lib.hid (fun W (hW : Ext wb W) => show W.cell? ⟨fb, 2, none⟩ = some (.int .i64 re) ∧ W.cell? ⟨fb, 5, none⟩ = some (.slice (some ⟨b3, o3, none⟩) co.length cc) from by
                    have h1 := ((Ext.trans HWAB.out hW).below.block _ (lt_of_block HFC.out)).trans HFC.out
                    exact ⟨cell_of h1 rfl, cell_of h1 rfl⟩)
                  have KI := Lib.hid (fun W (hW : Ext wb W) => show W.cell? ⟨ib, 0, none⟩ = some (.int .i64 op) ∧ W.cell? ⟨ib, 1, none⟩ = some (.int .i64 xa) ∧ W.cell? ⟨ib, 2, none⟩ = some (.int .i64 xb) ∧ W.cell? ⟨ib, 3, none⟩ = some (.int .i64 xc) ∧ W.cell? ⟨ib, 4, none⟩ = some (.slice aa xl.length ac) from by
                    have h1 := (hW.below.block _ (lt_of_block HIC.out)).trans HIC.out
                    exact ⟨cell_of h1 rfl, cell_of h1 rfl, cell_of h1 rfl, cell_of h1 rfl, cell_of h1 rfl⟩)
                  refine (HRC.out wb (HI3A.out wb HWB.out) hl3).mono ?_
                  rintro _ w4 ⟨vv1, vv2, rfl, hR1, hR2, hE⟩
                  obtain ⟨a1, c1, rfl, hI1, _, _⟩ := hR1.ints
                  obtain ⟨a2, c2', rfl, hI2, _, _⟩ := hR2.ints
                  have HI1 := Lib.hid (fun W (hW : Ext w4 W) => hI1.below hW)
                  have HI2 := Lib.hid (fun W (hW : Ext w4 W) => hI2.below hW)
                  have HB4 := Lib.hid (show Ext wb w4 from hE)
                  clear hE hR1 hR2 hI1 hI2
                  obtain ⟨m0, m1, m2, m3, m4⟩ := KI.out w4 HB4.out
                  go_wp2_with fail
                  clear m0 m1 m2 m3 m4
                  refine (KV.out _).mono ?_
                  intro w41 hE
                  have HB41 := Lib.hid (Ext.trans HB4.out hE)
                  have HE41 := Lib.hid (show Ext w4 w41 from hE)
                  clear hE
                  obtain ⟨m0, m1, m2, m3, m4⟩ := KI.out w41 HB41.out
                  go_wp2_with fail
                  clear m0 m1 m2 m3 m4
                  refine (Cancel_any op _).mono ?_
                  intro w42 hE
                  have HB42 := Lib.hid (Ext.trans HB41.out hE)
                  have HE42 := Lib.hid (Ext.trans HE41.out hE)
                  clear hE
                  obtain ⟨cn, hcn⟩ : ∃ c, cancB op = c := ⟨_, rfl⟩
                  rw [hcn]
                  clear hcn
                  cases cn with
                  | true =>
                    -- the registers
                    go_wp2_with fail
                    refine (ContainsInt_any R1 a1 c1 28 #[.pointer (some ⟨fb, 0, none⟩)] (outB re) _ (HI1.out _ HE42.out) (by omega) EN1.out (fun q hq W hW => valid1_any _ _ _ _ (KF.out W (Ext.trans HB42.out hW)).1)).mono ?_
                    intro w5 hE
                    rw [HA1.out]
                    have HB5 := Lib.hid (Ext.trans HB42.out hE)
                    have HE5 := Lib.hid (Ext.trans HE42.out hE)
                    clear hE
                    go_wp2_with fail
                    refine (ContainsInt_any R2 a2 c2' 28 #[.pointer (some ⟨fb, 0, none⟩)] (outB re) _ (HI2.out _ HE5.out) (by omega) EN1.out (fun q hq W hW => valid1_any _ _ _ _ (KF.out W (Ext.trans HB5.out hW)).1)).mono ?_
                    intro w6 hE
                    rw [HA2.out]
                    have HB6 := Lib.hid (Ext.trans HB5.out hE)
                    have HE6 := Lib.hid (Ext.trans HE5.out hE)
                    clear hE
                    go_wp2_with fail
                    refine (IsSorted_any R1 a1 c1 _ (by omega) (HI1.out _ HE6.out) HS1.out).mono ?_
                    intro w7 hE
                    have HB7 := Lib.hid (Ext.trans HB6.out hE)
                    have HE7 := Lib.hid (Ext.trans HE6.out hE)
                    clear hE
                    go_wp2_with fail
                    refine (IsSorted_any R2 a2 c2' _ (by omega) (HI2.out _ HE7.out) HS2.out).mono ?_
                    intro w8 hE
                    have HB8 := Lib.hid (Ext.trans HB7.out hE)
                    have HE8 := Lib.hid (Ext.trans HE7.out hE)
                    clear hE
                    obtain ⟨d0_0, d0_1, d0_2⟩ := BX.out w8 (Ext.trans HEWB.out HB8.out)
                    obtain ⟨m0, m1, m2, m3, m4⟩ := KI.out w8 HB8.out
                    go_wp2_with fail
                    clear d0_0 d0_1 d0_2 m0 m1 m2 m3 m4
                    refine (KN.out (k : Int) (j : Int) (by unfold i64; omega) (by unfold i64; omega) _ (Ext.trans HXWB.out HB8.out)).mono ?_
                    rintro _ w9 ⟨v3, rfl, hR3, hE⟩
                    obtain ⟨a3, c3', rfl, hI3, _, _⟩ := hR3.ints
                    rw [HNJ.out] at hI3 ⊢
                    have HI3 := Lib.hid (fun W (hW : Ext w9 W) => hI3.below hW)
                    have HB9 := Lib.hid (Ext.trans HB8.out hE)
                    clear hE hI3 hR3
                    go_wp2_with fail
                    refine (ContainsInt_any NL a3 c3' 34 #[.pointer (some ⟨fb, 0, none⟩)] (outB (co.length : Int)) _ (HI3.out _ (Below.refl _ _)) (by omega) EN2.out (fun q hq W hW => valid2_any _ _ _ _ _ _ (by omega) (KF.out W (Ext.trans HB9.out hW)).2)).mono ?_
                    intro w10 hE
                    rw [HA3.out]
                    have HB10 := Lib.hid (Ext.trans HB9.out hE)
                    have HE10 := Lib.hid hE
                    clear hE
                    obtain ⟨m0, m1, m2, m3, m4⟩ := KI.out w10 HB10.out
                    obtain ⟨n2, n5⟩ := KF.out w10 HB10.out
                    have o16 : ¬ op = 16 := by omega
                    have q16 : (op == 16) = false := beq_eq_false_iff_ne.2 o16
                    have o21 : ¬ op = 21 := by omega
                    have q21 : (op == 21) = false := beq_eq_false_iff_ne.2 o21
                    have o13 : ¬ op = 13 := by omega
                    have q13 : (op == 13) = false := beq_eq_false_iff_ne.2 o13
                    by_cases hnx : (j : Int) + 1 < (co.length : Int)
                    case neg =>
                      go_wp2
                      go_roundw
                      case rel => exact ⟨j + 1, by omega, by go_num, Ext.trans HWAB.out HB10.out⟩
                      case measure => simp [intOf]; omega
                    case pos =>
                      have HHS := Lib.hid (HHAS.out (by omega) hnx)
                      go_wp2_with fail
                      clear m0 m1 m2 m3 m4 n2 n5
                      refine Calls.mono (Contains1_any NL ((j : Int) + 1) a3 c3' _ (HI3.out _ HE10.out) (by omega)) ?_
                      rintro _ w11 ⟨rfl, hw11⟩
                      rw [hw11, HHS.out]
                      clear hw11 w11
                      go_wp2
                      go_roundw
                      case rel => exact ⟨j + 1, by omega, by go_num, Ext.trans HWAB.out HB10.out⟩
                      case measure => simp [intOf]; omega

                  | false =>
                    -- the registers
                    go_wp2_with fail
                    refine (ContainsInt_any R1 a1 c1 28 #[.pointer (some ⟨fb, 0, none⟩)] (outB re) _ (HI1.out _ HE42.out) (by omega) EN1.out (fun q hq W hW => valid1_any _ _ _ _ (KF.out W (Ext.trans HB42.out hW)).1)).mono ?_
                    intro w5 hE
                    rw [HA1.out]
                    have HB5 := Lib.hid (Ext.trans HB42.out hE)
                    have HE5 := Lib.hid (Ext.trans HE42.out hE)
                    clear hE
                    go_wp2_with fail
                    refine (ContainsInt_any R2 a2 c2' 28 #[.pointer (some ⟨fb, 0, none⟩)] (outB re) _ (HI2.out _ HE5.out) (by omega) EN1.out (fun q hq W hW => valid1_any _ _ _ _ (KF.out W (Ext.trans HB5.out hW)).1)).mono ?_
                    intro w6 hE
                    rw [HA2.out]
                    have HB6 := Lib.hid (Ext.trans HB5.out hE)
                    have HE6 := Lib.hid (Ext.trans HE5.out hE)
                    clear hE
                    go_wp2_with fail
                    refine (IsSorted_any R1 a1 c1 _ (by omega) (HI1.out _ HE6.out) HS1.out).mono ?_
                    intro w7 hE
                    have HB7 := Lib.hid (Ext.trans HB6.out hE)
                    have HE7 := Lib.hid (Ext.trans HE6.out hE)
                    clear hE
                    go_wp2_with fail
                    refine (IsSorted_any R2 a2 c2' _ (by omega) (HI2.out _ HE7.out) HS2.out).mono ?_
                    intro w8 hE
                    have HB8 := Lib.hid (Ext.trans HB7.out hE)
                    have HE8 := Lib.hid (Ext.trans HE7.out hE)
                    clear hE
                    obtain ⟨d0_0, d0_1, d0_2⟩ := BX.out w8 (Ext.trans HEWB.out HB8.out)
                    obtain ⟨m0, m1, m2, m3, m4⟩ := KI.out w8 HB8.out
                    go_wp2_with fail
                    clear d0_0 d0_1 d0_2 m0 m1 m2 m3 m4
                    refine (KN.out (k : Int) (j : Int) (by unfold i64; omega) (by unfold i64; omega) _ (Ext.trans HXWB.out HB8.out)).mono ?_
                    rintro _ w9 ⟨v3, rfl, hR3, hE⟩
                    obtain ⟨a3, c3', rfl, hI3, _, _⟩ := hR3.ints
                    rw [HNJ.out] at hI3 ⊢
                    have HI3 := Lib.hid (fun W (hW : Ext w9 W) => hI3.below hW)
                    have HB9 := Lib.hid (Ext.trans HB8.out hE)
                    clear hE hI3 hR3
                    go_wp2_with fail
                    refine (ContainsInt_any NL a3 c3' 34 #[.pointer (some ⟨fb, 0, none⟩)] (outB (co.length : Int)) _ (HI3.out _ (Below.refl _ _)) (by omega) EN2.out (fun q hq W hW => valid2_any _ _ _ _ _ _ (by omega) (KF.out W (Ext.trans HB9.out hW)).2)).mono ?_
                    intro w10 hE
                    rw [HA3.out]
                    have HB10 := Lib.hid (Ext.trans HB9.out hE)
                    have HE10 := Lib.hid hE
                    clear hE
                    obtain ⟨m0, m1, m2, m3, m4⟩ := KI.out w10 HB10.out
                    obtain ⟨n2, n5⟩ := KF.out w10 HB10.out
                    have o16 : ¬ op = 16 := by omega
                    have q16 : (op == 16) = false := beq_eq_false_iff_ne.2 o16
                    have o21 : ¬ op = 21 := by omega
                    have q21 : (op == 21) = false := beq_eq_false_iff_ne.2 o21
                    have o13 : ¬ op = 13 := by omega
                    have q13 : (op == 13) = false := beq_eq_false_iff_ne.2 o13
                    by_cases hnx : (j : Int) + 1 < (co.length : Int)
                    case neg =>
                      go_wp2
                      go_roundw
                      case rel => exact ⟨j + 1, by omega, by go_num, Ext.trans HWAB.out HB10.out⟩
                      case measure => simp [intOf]; omega
                    case pos =>
                      have HHS := Lib.hid (HHAS.out (by omega) hnx)
                      go_wp2_with fail
                      clear m0 m1 m2 m3 m4 n2 n5
                      refine Calls.mono (Contains1_any NL ((j : Int) + 1) a3 c3' _ (HI3.out _ HE10.out) (by omega)) ?_
                      rintro _ w11 ⟨rfl, hw11⟩
                      rw [hw11, HHS.out]
                      clear hw11 w11
                      go_wp2
                      go_roundw
                      case rel => exact ⟨j + 1, by omega, by go_num, Ext.trans HWAB.out HB10.out⟩
                      case measure => simp [intOf]; omega

end Go.Proofs.YtfkjokbhnblndaaDoor

namespace Go.Proofs.YtfkjokbhnblndaaDoor.programValid
open Go.ChangeShapes Go.WideShapes Go.ChangeAt Go.RowKit
open Go.ChangeMaps (open_string shut_string)
set_option linter.unusedVariables false

theorem own : ownKnob Tryd.prog.godebug = none := by kernel_rfl
theorem laidOut : laidOutB Tryd.prog = true := by kernel_rfl
/-- the cells of a datum of plain values -/
def flat : Nat → DataW Unit → List Value
  | _, .lit l => [l.value]
  | n + 1, .agg ps => ps.flatMap (flat n)
  | _, _ => []
/-- a world for the witness: the settled one, the listed tables holding what the text lays -/
def lay (d : DataW Unit) : Obj → Obj
  | .cells _ t frozen => .cells (flat 4 d).toArray t frozen
  | o => o
noncomputable def laidWorld (os : Os) : World :=
  { World.holding Tryd.prog os ⟨#[], #[], []⟩ with heap := ((((World.holding Tryd.prog os ⟨#[], #[], []⟩).heap.modify 2 (lay Rows.laid_math_bits_deBruijn32tab)).modify 3 (lay Rows.laid_math_bits_deBruijn64tab)).modify 1 (lay Rows.laid_internal_strconv_uint64pow10)) }
theorem laid_met (os : Os) : laidMet Tryd.prog Rows.programValidRow.laid ((laidWorld os).forCall (fun _ _ => 0) ⟨#[], #[.agg #[.slice none 0 0, .slice none 0 0, .slice none 0 0]], []⟩).memory :=
  laidMet_of_run' 8 (by kernel_rfl) (by kernel_rfl)
theorem reads (os : Os) {H : Type} (enc : TypeId × Value → H) : ∃ places, DataW.whole enc Tryd.prog ((laidWorld os).forCall (fun _ _ => 0) ⟨#[], #[.agg #[.slice none 0 0, .slice none 0 0, .slice none 0 0]], []⟩).memory Tryd.f6.params.toList Rows.programValidSpec.vars false (#[.agg #[.slice none 0 0, .slice none 0 0, .slice none 0 0]] : Array Value).toList 8 = some ([.agg [.nil, .nil, .nil]], [], places) :=
  ⟨[], by kernel_rfl⟩
theorem tab (W : World) (h : laidMetH Tryd.prog Rows.programValidRow.laid W) : TabW W := by
  have h1 : laidMet Tryd.prog Rows.programValidRow.laid W := h
  exact Lib.tabIs_of_head (g := 1) (t := 161) (e := 149) (n := 20) (by kernel_rfl) (by kernel_rfl) Tryd.underlying161 Tryd.underlying149 (by kernel_rfl) (by kernel_rfl) h1.tail.tail
set_option maxRecDepth 100000 in
set_option maxHeartbeats 4000000 in
theorem contract (H : Type) (enc : TypeId × Value → H) (W : World) (base : Nat) (args : Array Value) (ds gs : List (DataW H)) (before : List MemPlace)
    (hval0 : ∀ (j : Nat) t v, Tryd.f6.params[j]? = some t → args[j]? = some v → Value.okWide Tryd.prog W .any base t v)
    (hW : DataW.Whole enc Tryd.prog Tryd.f6.params.toList Rows.programValidSpec.vars false W args.toList ds gs before) (hz : (DataW.weightsEach Tryd.prog (Tryd.f6.params.toList ++ (OpenSpec.ofChange Rows.programValidSpec).bare.plain.varTypes Tryd.prog) (ds ++ gs)).all (· ≤ reachBytes) = true) (hL : laidMetH Tryd.prog Rows.programValidRow.laid W) :
    Calls Tryd.prog 6 args W fun e W' => ∃ v, e = .returned v ∧ Rows.programValidSpec.post enc Tryd.prog Tryd.f6 false true false false W args v W' := by
  have hval := hval0
  have hW' := hW
  obtain ⟨p, q, hA0, hV, rfl, hfz, hnd⟩ := hW
  have hA : DataW.TrodAll enc Tryd.prog W 0 (fun _ => true) true Tryd.f6.params.toList args.toList ds p := hA0
  rw [Tryd.params6] at hA hval
  obtain ⟨v0, vs0, d0, ds0, p0, q0, hargs, rfl, rfl, h0, r0⟩ := trodAll_cons hA
  obtain ⟨rfl, rfl, rfl⟩ := trodAll_nil r0
  obtain rfl : args = #[v0] := by cases args; simp_all
  obtain ⟨rfl, rfl⟩ := trodVars_none hV
  have k0 := h0
  have lt0 : ∀ x ∈ p0, x.block < W.heap.size := by obtain ⟨m, hm⟩ := k0; exact DataW.trod_lt m _ _ _ hm
  obtain ⟨e0, ae0, rfl, w0⟩ := open_pg (hval 0 26 v0 rfl rfl) h0 (fun n hn => by have := List.all_eq_true.1 hz n (DataW.weights_mem_each (j := 0) rfl rfl n hn); simpa using this)
  clear hA0 hval0 hz
  refine (programValid_walk e0 ae0 W w0 (tab W hL)).mono fun W' bel => ?_
  exact ⟨_, rfl, _, _, _, [], _, [], hW', trodAll_mk1 (shut_bool Tryd.underlying4 _), (trodAll_cons_mk (Below.trod laidOut (by kernel_rfl) (of_decide_eq_true (by kernel_rfl)) k0 bel lt0) trodAll_mk0), rfl, bel.frame _, fun h => by cases h⟩

set_option maxRecDepth 100000 in
theorem lifted (os : Os) (started : os.Started) (H : Type) (enc : TypeId × Value → H) (F : Stop.Interp) :
    ReturnsInHanded {} Tryd.checked os 6 .any ((OpenSpec.ofChange Rows.programValidSpec).preRow enc Tryd.prog Tryd.f6 Rows.programValidRow.domain false Rows.programValidRow.laid) (((OpenSpec.ofChange Rows.programValidSpec).at F).post enc Tryd.prog Tryd.f6 false true false false) := by
  obtain ⟨places, hx⟩ := reads os enc
  refine returnsInHanded_of_row (C := Tryd.checked) (s := OpenSpec.ofChange Rows.programValidSpec) own started (by kernel_rfl) Tryd.func6
    (witness_row_at (enc := enc) (C := Tryd.checked) false (laidWorld os) #[.agg #[.slice none 0 0, .slice none 0 0, .slice none 0 0]] rfl (by kernel_rfl) (by kernel_rfl) (by kernel_rfl)
      (OpenSpec.preRow_of_cond 8 hx (by kernel_rfl) (fun k hk => by cases hk) (by kernel_rfl) (laid_met os))) ?_
  intro W base args ds gs before hval hW _ _ hz hL hsh _
  exact contract H enc W base args ds gs before hval hW hz hL

theorem said : Rows.ProgramValidSaid :=
  OpenClaim.holds_of_cond 6 Tryd.f6 rfl rfl rfl rfl rfl rfl rfl ⟨rfl, rfl, rfl, rfl, rfl⟩ rfl rfl rfl rfl rfl (by kernel_rfl) Tryd.func6 (by kernel_rfl)
    (of_decide_eq_true (by kernel_rfl)) (by unfold Func.isWrapper; first | (rw [if_pos (by decide +kernel)]; kernel_rfl) | (rw [if_neg (by decide +kernel)]; exact ⟨rfl, rfl⟩))
    (fun os started H enc _ F => by rw [OpenClaim.pre_eq_preRow]; exact lifted os started H enc F)

theorem plain (f : FuncId) (fn : Func) (hf : Tryd.pinned.checked.prog.funcNamed "nursery/nurserylaw13.ProgramValid" = some f) (hfn : Tryd.pinned.checked.prog.funcs[f]? = some fn) :
    true = Tryd.pinned.checked.prog.looks [] ∧ ∀ (j : Nat) t, fn.params[j]? = some t → Tryd.pinned.checked.prog.wantsStandIn t = false := by
  obtain rfl : f = 6 := Option.some.inj ((show Tryd.prog.funcNamed "nursery/nurserylaw13.ProgramValid" = some 6 by kernel_rfl).symm.trans hf) |>.symm
  obtain rfl : fn = Tryd.f6 := (Option.some.inj (Tryd.func6.symm.trans hfn)).symm
  refine ⟨by kernel_rfl, fun j t ht => ?_⟩
  rw [Tryd.params6] at ht
  rcases j with _ | j
  · obtain rfl : t = 26 := by simpa using ht.symm
    exact (show Tryd.prog.wantsStandIn 26 = false by kernel_rfl)
  · simp at ht

/-- the statement -/
theorem proved : Rows.ProgramValidCardSaid :=
  Claim7.holds_tied_plain_at .later [] _ _ _ _ said (fun _ h => by cases h) (by kernel_rfl) (fun _ h => by cases h) programValid_row_tie rfl ⟨rfl, rfl⟩ (by kernel_rfl) rfl plain (by kernel_rfl)
#print axioms proved
end Go.Proofs.YtfkjokbhnblndaaDoor.programValid

