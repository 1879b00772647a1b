/- The statement LinearizeVerifyCardSaid: for every input the law returns true, and the arguments read as before; the tables of the library that it lists are tied to the text. The frame round the walk of the law. (With it: The reference's Verify, the check being 0. Printed by mk_lnrt.py.; LinearizeVerify: Verify returns the error of the reference. Printed by mk_lawlver.py.) -/
import Derived.Stop.LaidErr
import Derived.Test.YtmbkjccckmlacaaDoorCards
import Derived.Test.YtmbkjccckmlacaaDoorTie
import Derived.WalkKit
import Derived.ProofKit
import Derived.OpenShut
import Derived.ShutString
import Derived.ChangeOld
import Derived.Below
import Derived.Deep.DeepHandedRow
import Derived.Lib.LaidTab
import Derived.Shelf.Vars
import Derived.Test.YtmbkjccckmlacaaDoorHandR2
import Derived.Test.YtmbkjccckmlacaaDoorHandR1

namespace Go.Proofs.YtmbkjccckmlacaaDoor
open Go.RowKit
set_option linter.unusedVariables false
set_option linter.unusedSimpArgs false

/-- one round of the loop along an order -/
theorem fol_take {k z : Int} {l : List Cl} {o : List Int} {j q : Nat} (hj : j < o.length) (ho : ∀ x ∈ o, 0 ≤ x ∧ x < (l.length : Int)) (hq : o[j] = (q : Int)) (hql : q < l.length) (h : folE k z l (beg0 k) (o.take j) = 0) :
    folE k z l (beg0 k) (o.take (j + 1)) = (if freeR l (o.take j) q = false then 9 else
      if (apM k z (stO k z l (beg0 k) (o.take j)).2 l[q].meth l[q].arg).2.2 ≠ 0 then (apM k z (stO k z l (beg0 k) (o.take j)).2 l[q].meth l[q].arg).2.2 else
      if l[q].en ≠ -1 ∧ (apM k z (stO k z l (beg0 k) (o.take j)).2 l[q].meth l[q].arg).2.1 ≠ l[q].res then 10 else 0) ∧
    (stO k z l (beg0 k) (o.take (j + 1))).2 = (apM k z (stO k z l (beg0 k) (o.take j)).2 l[q].meth l[q].arg).1 := by
  have ht : ∀ x ∈ o.take j, x.toNat < l.length := fun x hx => by have := ho x (List.mem_of_mem_take hx); omega
  have hs : ∀ i, i < l.length → (stO k z l (beg0 k) (o.take j)).1.testBit i = decide ((i : Int) ∈ o.take j) := fun i hi => by
    rw [stO_set _ _ ht, setO_bit _ _ _ (fun x hx => (ho x (List.mem_of_mem_take hx)).1)]
    simp [beg0]
  have e : o.take (j + 1) = o.take j ++ [(q : Int)] := by rw [List.take_succ_eq_append_getElem hj, hq]
  rw [e, folE_app _ _ _ ht, if_neg (by simpa using h), stO_app _ _ _ ht, folE_step hql, free_set hs]
  refine ⟨rfl, ?_⟩
  rw [stO, Int.toNat_natCast, List.getElem?_eq_getElem hql]
  rfl
set_option maxRecDepth 100000 in
set_option maxHeartbeats 8000000 in
theorem refVer_any (k z : Int) (l : List Cl) (o : List Int) (a b : Option Addr) (c d : Nat) (w : World) (hm : l.length ≤ maxLen) (h : HsAt w a l) (hI : IntsAt w b o) (ho : o.length ≤ d) (ho2 : o.length ≤ 1000) (hb : srE k z l = 0) :
    Gives Tryd.prog 22 #[.agg #[.int .i64 k, .int .i64 z], .slice a l.length c, .slice b o.length d] w (.int .i64 (verR k z l o)) := by
  unfold Gives
  have HX := Lib.hid (ext_allocN w (.cells #[.int .i64 k, .int .i64 z] 23))
  have HMD := Lib.hid (mdCells w k z)
  obtain ⟨wk, hwk⟩ : ∃ W, W = w.alloc (.cells #[.int .i64 k, .int .i64 z] 23) := ⟨_, rfl⟩
  have hwk' := hwk.symm
  rw [hwk'] at HX HMD
  clear hwk
  obtain ⟨m0, m1⟩ := HMD.out wk (Below.refl _ _)
  have KC := Lib.hid (fun W (hW : Ext wk W) => refCk_any k z l a c W hm (h.ext (Ext.trans HX.out hW)))
  rw [hb] at KC
  have HV := Lib.hid (show verR k z l o = if ordE l.length 0 o ≠ 0 then ordE l.length 0 o else if cmpl l (setO 0 o, []) = false then 7 else folE k z l (beg0 k) o by unfold verR; rw [if_neg (by simpa using hb)])
  have HN12 := Lib.hid (show l.length ≤ 12 from Classical.byContradiction fun hno => by
    unfold srE at hb
    split at hb
    · contradiction
    · split at hb
      · omega
      · rw [if_pos (by omega)] at hb; omega)
  have HM := Lib.hid (show mdE k z = 0 from Classical.byContradiction fun hno => by
    unfold srE at hb
    rw [if_pos hno] at hb
    exact hno hb)
  have HI := Lib.hid (fun W (hW : Ext wk W) => hI.ext (Ext.trans HX.out hW))
  have HH := Lib.hid (fun W (hW : Ext wk W) => h.ext (Ext.trans HX.out hW))
  generalize verR k z l o = R at *
  obtain ⟨n, hn⟩ : ∃ n, l.length = n := ⟨_, rfl⟩
  have HN := Lib.hid hn
  obtain ⟨lo, hlo⟩ : ∃ lo, o.length = lo := ⟨_, rfl⟩
  have HL := Lib.hid hlo
  unfold maxLen at hm
  rw [hn] at KC HV hm ⊢
  rw [hlo] at ho ho2 ⊢
  clear h hI hn hlo
  go_enter Tryd.func22, Tryd.ntmps22
  go_wp2_with fail
  refine (KC.out wk (Below.refl _ _)).mono ?_
  intro w1 hE1
  have HE1 := Lib.hid (show Ext wk w1 from hE1)
  clear hE1
  go_wp2_with fail
  go_loopw [8] (fun i wr => ∃ j : Nat, j ≤ lo ∧ i = .int .i64 (j : Int) ∧ ordE n 0 (o.take j) = 0 ∧ Ext wk wr) (fun i _ => lo - (intOf i).toNat)
  case atStart => exact ⟨0, Nat.zero_le _, rfl, rfl, HE1.out⟩
  case round =>
    obtain ⟨j, hj, rfl, hord, hEr⟩ := hrel
    have HO := Lib.hid hord
    have HE := Lib.hid hEr
    clear hord hEr
    by_cases hlt : j < lo
    · have hjl : j < o.length := by rw [HL.out]; exact hlt
      have hi0 : (0 : Int) ≤ (j : Int) := by omega
      have hi1 : (j : Int) < (lo : Int) := by omega
      have HT := Lib.hid (ordE_take hjl HO.out)
      obtain ⟨bb, ob, hbb, hc⟩ := (HI.out wr HE.out) j hjl
      subst hbb
      have HC := Lib.hid (fun W (hW : Ext wk W) => show W.cell? ⟨bb, ob + j, none⟩ = some (.int .i64 o[j]) from by
        obtain ⟨b', o', e', hc'⟩ := (HI.out W hW) j hjl
        cases e'
        exact hc')
      have KHj := Lib.hid (fun W (hW : Ext wk W) => show Gives Tryd.prog 44 #[.slice (some ⟨bb, ob, none⟩) j d, .int .i64 o[j]] W (.bool (decide (o[j] ∈ o.take j))) from by
        have := refHas_any (o.take j) o[j] (some ⟨bb, ob, none⟩) d W (by rw [List.length_take]; omega) ((HI.out W hW).pre j)
        rw [List.length_take, Nat.min_eq_left (by omega)] at this
        exact this)
      generalize o[j] = x at *
      by_cases hx : x < 0 ∨ (n : Int) ≤ x
      · have HRv := Lib.hid (show R = 2 by
          have h1 := HT.out
          rw [if_pos hx] at h1
          rw [HV.out, ordE_fail (j := j + 1) (by omega), h1]
          rfl)
        have hcase : (decide (x < 0) = true) ∨ (decide (x < 0) = false ∧ decide ((n : Int) ≤ x) = true) := by
          by_cases h1 : x < 0
          · exact .inl (by simpa using h1)
          · exact .inr ⟨by simpa using h1, by simp; omega⟩
        clear hx HT HV
        rcases hcase with g1 | ⟨g1, g2⟩
        all_goals
          go_wp2
          go_ret
          exact ⟨by rw [HRv.out]; rfl, Ext.trans HX.out HE.out⟩
      · have g1 : decide (x < 0) = false := by simp; omega
        have g2 : decide ((n : Int) ≤ x) = false := by simp; omega
        have hjd : (j : Int) ≤ (d : Int) := by omega
        have hjd2 : j ≤ d := by omega
        go_wp2_with fail
        refine wp_region_tail (l1 := [_, _, _, _, _, _, _]) (l2 := [_]) (by kernel_rfl) Ext (fun W => Below.refl _ W) (fun W => show Below W.heap.size W { W with drawn := W.drawn + 1 } from ⟨rfl, rfl, rfl, Nat.le_refl _, fun _ _ => rfl⟩) Ext.trans
          (fun i s W => match i with
            | 0 => s 0 = .slice (some ⟨bb, ob, none⟩) lo d
            | 1 => s 1 = .int .i64 (j : Int)
            | 2 => s 2 = .slice (some ⟨bb, ob, none⟩) j d
            | 3 => s 3 = .slice (some ⟨bb, ob, none⟩) lo d
            | 4 => s 4 = .int .i64 (j : Int)
            | 5 => s 5 = .pointer (some ⟨bb, ob + j, none⟩)
            | 6 => s 6 = .int .i64 x
            | _ => True)
          (fun i => [i])
          (by
            intro i s s' W W' h hs hE
            have hs := hs i (by simp)
            match i, h, hs with
            | 0, h, hs => exact hs.trans h
            | 1, h, hs => exact hs.trans h
            | 2, h, hs => exact hs.trans h
            | 3, h, hs => exact hs.trans h
            | 4, h, hs => exact hs.trans h
            | 5, h, hs => exact hs.trans h
            | 6, h, hs => exact hs.trans h
            | i + 7, h, hs => exact trivial)
          (by kernel_rfl) (by kernel_rfl) (by kernel_rfl) 102 rfl (by kernel_rfl) (by kernel_rfl) ?_ ?_
        · intro i op ho a' W hA
          have x0 := HC.out W (Ext.trans HE.out hA.rel)
          match i, ho with
          | 0, ho =>
            obtain rfl := Option.some.inj ho
            have e1 : a'.eval (.tmp 2) = .slice (some ⟨bb, ob, none⟩) lo d := hA.keep 2 (by kernel_rfl)
            refine GoesG.value (.slice (some ⟨bb, ob, none⟩) lo d) rfl ?_ (Below.refl _ _) (fun s h1 h2 => h1 rfl)
            simp only [execOp, e1]
            simp [go_sem, x0, hi0, hi1, hjd, hjd2]
          | 1, ho =>
            obtain rfl := Option.some.inj ho
            have e1 : a'.eval (.tmp 8) = .int .i64 (j : Int) := hA.keep 8 (by kernel_rfl)
            refine GoesG.value (.int .i64 (j : Int)) rfl ?_ (Below.refl _ _) (fun s h1 h2 => h1 rfl)
            simp only [execOp, e1]
            simp [go_sem, x0, hi0, hi1, hjd, hjd2]
          | 2, ho =>
            obtain rfl := Option.some.inj ho
            have e1 : a'.eval (.tmp 41) = .slice (some ⟨bb, ob, none⟩) lo d := (sv_dst (l := _) rfl).symm.trans (hA.new 0 (by decide) (by kernel_rfl))
            have e2 : a'.eval (.tmp 42) = .int .i64 (j : Int) := (sv_dst (l := _) rfl).symm.trans (hA.new 1 (by decide) (by kernel_rfl))
            refine GoesG.value (.slice (some ⟨bb, ob, none⟩) j d) rfl ?_ (Below.refl _ _) (fun s h1 h2 => h1 rfl)
            simp [Act.eval] at e1 e2
            simp [execOp, go_sem, e1, e2, hi0, hjd, hjd2]
          | 3, ho =>
            obtain rfl := Option.some.inj ho
            have e1 : a'.eval (.tmp 2) = .slice (some ⟨bb, ob, none⟩) lo d := hA.keep 2 (by kernel_rfl)
            refine GoesG.value (.slice (some ⟨bb, ob, none⟩) lo d) rfl ?_ (Below.refl _ _) (fun s h1 h2 => h1 rfl)
            simp only [execOp, e1]
            simp [go_sem, x0, hi0, hi1, hjd, hjd2]
          | 4, ho =>
            obtain rfl := Option.some.inj ho
            have e1 : a'.eval (.tmp 8) = .int .i64 (j : Int) := hA.keep 8 (by kernel_rfl)
            refine GoesG.value (.int .i64 (j : Int)) rfl ?_ (Below.refl _ _) (fun s h1 h2 => h1 rfl)
            simp only [execOp, e1]
            simp [go_sem, x0, hi0, hi1, hjd, hjd2]
          | 5, ho =>
            obtain rfl := Option.some.inj ho
            have e1 : a'.eval (.tmp 44) = .slice (some ⟨bb, ob, none⟩) lo d := (sv_dst (l := _) rfl).symm.trans (hA.new 3 (by decide) (by kernel_rfl))
            have e2 : a'.eval (.tmp 45) = .int .i64 (j : Int) := (sv_dst (l := _) rfl).symm.trans (hA.new 4 (by decide) (by kernel_rfl))
            refine GoesG.value (.pointer (some ⟨bb, ob + j, none⟩)) rfl ?_ (Below.refl _ _) (fun s h1 h2 => h1 rfl)
            simp only [execOp, e1, e2]
            simp [go_sem, x0, hi0, hi1, hjd, hjd2]
          | 6, ho =>
            obtain rfl := Option.some.inj ho
            have e1 : a'.eval (.tmp 46) = .pointer (some ⟨bb, ob + j, none⟩) := (sv_dst (l := _) rfl).symm.trans (hA.new 5 (by decide) (by kernel_rfl))
            refine GoesG.value (.int .i64 x) rfl ?_ (Below.refl _ _) (fun s h1 h2 => h1 rfl)
            simp only [execOp, e1]
            simp [go_sem, x0, hi0, hi1, hjd, hjd2]
          | i + 7, ho => cases ho
        · intro vs w4 hvs hG hΦ
          obtain ⟨y0, y1, y2, y3, y4, y5, y6, rfl⟩ : ∃ y0 y1 y2 y3 y4 y5 y6, vs = y0 :: y1 :: y2 :: y3 :: y4 :: y5 :: y6 :: [] := by
            match vs, hvs with
            | y0 :: y1 :: y2 :: y3 :: y4 :: y5 :: y6 :: [], _ => exact ⟨y0, y1, y2, y3, y4, y5, y6, rfl⟩
          have e0 : y0 = .slice (some ⟨bb, ob, none⟩) lo d := hΦ 0 (by decide)
          subst e0
          have e1 : y1 = .int .i64 (j : Int) := hΦ 1 (by decide)
          subst e1
          have e2 : y2 = .slice (some ⟨bb, ob, none⟩) j d := hΦ 2 (by decide)
          subst e2
          have e3 : y3 = .slice (some ⟨bb, ob, none⟩) lo d := hΦ 3 (by decide)
          subst e3
          have e4 : y4 = .int .i64 (j : Int) := hΦ 4 (by decide)
          subst e4
          have e5 : y5 = .pointer (some ⟨bb, ob + j, none⟩) := hΦ 5 (by decide)
          subst e5
          have e6 : y6 = .int .i64 x := hΦ 6 (by decide)
          subst e6
          clear hΦ hvs
          simp only [putAll, Act.put, List.setIfInBounds_toArray, List.set_cons_succ, List.set_cons_zero]
          try simp only [putAll, Act.put, List.setIfInBounds_toArray, List.set_cons_succ, List.set_cons_zero]
          have HE4 := Lib.hid (Ext.trans HE.out (show Ext wr w4 from hG))
          clear hG
          have C := Lib.hid (KHj.out w4 HE4.out)
          have h1 := HT.out
          rw [if_neg hx] at h1
          by_cases hin : x ∈ o.take j
          · have hd : decide (x ∈ o.take j) = true := by simpa using hin
            rw [if_pos hin] at h1
            have HRv := Lib.hid (show R = 6 by
              rw [HV.out, ordE_fail (j := j + 1) (by omega), h1]
              rfl)
            rw [hd] at C
            clear hd hin h1 hx HT HV
            go_wp2_with fail
            refine C.out.mono ?_
            intro w5 hE5
            have HE5 := Lib.hid (Ext.trans HE4.out hE5)
            clear hE5
            go_wp2
            go_ret
            exact ⟨by rw [HRv.out]; rfl, Ext.trans HX.out HE5.out⟩
          · have hd : decide (x ∈ o.take j) = false := by simpa using hin
            rw [if_neg hin] at h1
            have HY := Lib.hid h1
            rw [hd] at C
            clear hd hin h1 hx HT HV
            go_wp2_with fail
            refine C.out.mono ?_
            intro w5 hE5
            have HE5 := Lib.hid (Ext.trans HE4.out hE5)
            clear hE5
            go_wp2
            exact ⟨⟨j + 1, by omega, by go_num, HY.out, HE5.out⟩, by simp [intOf]; omega⟩
    · have hjl : lo = j := by omega
      subst hjl
      have hord : ordE n 0 o = 0 := by
        have h1 := HO.out
        rw [← HL.out, List.take_length] at h1
        exact h1
      have hnn := ordE_nn n o 0 hord
      have HBT := Lib.hid (fun i (hi : i < l.length) => show (setO 0 o).testBit i = decide ((i : Int) ∈ o) by rw [setO_bit o 0 i (fun x hx => (hnn x hx).1)]; simp)
      have HFU := Lib.hid (show fullR l o = cmpl l (setO 0 o, []) from full_set HBT.out)
      have KF := Lib.hid (fun W (hW : Ext wk W) => show Gives Tryd.prog 46 #[.slice a n c, .slice b lo d] W (.bool (fullR l o)) from by
        have := refFull_any l o a b c d W (by have := HN12.out; omega) (by rw [HL.out]; omega) (HH.out W hW) (HI.out W hW)
        rw [HN.out, HL.out] at this
        exact this)
      have HNN := Lib.hid hnn
      have HV2 := Lib.hid (show R = if fullR l o = false then 7 else folE k z l (beg0 k) o by rw [HV.out, if_neg (by simpa using hord), HFU.out])
      clear hnn hord HV HFU HO hlt
      generalize fullR l o = F at *
      cases F with
      | false =>
        have HRv := Lib.hid (show R = 7 by rw [HV2.out]; rfl)
        clear HV2
        go_wp2_with fail
        refine (KF.out wr HE.out).mono ?_
        intro w5 hE5
        have HE5 := Lib.hid (Ext.trans HE.out hE5)
        clear hE5
        go_wp2
        go_ret
        exact ⟨by rw [HRv.out]; rfl, Ext.trans HX.out HE5.out⟩
      | true =>
        have HRv := Lib.hid (show R = folE k z l (beg0 k) o by rw [HV2.out]; rfl)
        clear HV2
        have KI := Lib.hid (fun W => refInitial_any k z W)
        go_wp2_with fail
        refine (KF.out wr HE.out).mono ?_
        intro w5 hE5
        have HE5 := Lib.hid (Ext.trans HE.out hE5)
        clear hE5
        obtain ⟨m0, m1⟩ := HMD.out w5 HE5.out
        go_wp2_with fail
        refine (KI.out w5).mono ?_
        rintro e w6 ⟨v, rfl, hv, hE6⟩
        have HE6 := Lib.hid (Ext.trans HE5.out hE6)
        have HVI := Lib.hid hv
        clear hE6 hv
        obtain ⟨va, vc, rfl, hv1, hv2, -⟩ := HVI.out.look
        have HS0 := Lib.hid (show stR k z (rIni k) = true from by rw [rIni_eq HM.out]; exact (Gd.beg0 l HM.out).2)
        have HRI := Lib.hid (show rIni k = (beg0 k).2 from rIni_eq HM.out)
        have HV1 := Lib.hid hv1
        have HV3 := Lib.hid hv2
        clear HVI hv1 hv2
        go_wp2_with fail
        obtain ⟨wo, rfl⟩ : ∃ wo : World, wo = wr := ⟨_, rfl⟩
        go_loopw [9, 10] (fun t i wr => ∃ j : Nat, j ≤ lo ∧ i = .int .i64 (j : Int) ∧ folE k z l (beg0 k) (o.take j) = 0 ∧ stR k z (stO k z l (beg0 k) (o.take j)).2 = true ∧ (∃ sa sc, t = .slice sa (stO k z l (beg0 k) (o.take j)).2.length sc ∧ IntsAt wr sa (stO k z l (beg0 k) (o.take j)).2 ∧ (stO k z l (beg0 k) (o.take j)).2.length ≤ sc) ∧ Ext wk wr) (fun _ i _ => lo - (intOf i).toNat)
        case atStart => exact ⟨0, Nat.zero_le _, rfl, rfl, by rw [HRI.out] at HS0; exact HS0.out, ⟨va, vc, by rw [HRI.out]; rfl, by have := HV1.out; rw [HRI.out] at this; exact this, by have := HV3.out; rw [HRI.out] at this; exact this⟩, HE6.out⟩
        case round =>
          obtain ⟨j, hj, rfl, hfo, hst, ⟨sa, sc, rfl, hia, hca⟩, hEr⟩ := hrel
          have HFO := Lib.hid hfo
          have HST := Lib.hid hst
          have HIA := Lib.hid (fun W (hW : Ext wr W) => hia.ext hW)
          have HCA := Lib.hid hca
          have HE := Lib.hid hEr
          clear hfo hst hia hca hEr
          by_cases hlt : j < lo
          · have hjl : j < o.length := by rw [HL.out]; exact hlt
            have hi0 : (0 : Int) ≤ (j : Int) := by omega
            have hi1 : (j : Int) < (lo : Int) := by omega
            have hjd : (j : Int) ≤ (d : Int) := by omega
            have hjd2 : j ≤ d := by omega
            have hxq := HNN.out o[j] (List.getElem_mem hjl)
            obtain ⟨q, hq⟩ : ∃ q : Nat, o[j] = (q : Int) := ⟨o[j].toNat, by omega⟩
            have hqn : q < n := by omega
            have hql : q < l.length := by rw [HN.out]; exact hqn
            obtain ⟨hf1, hs1⟩ := fol_take (z := z) hjl (by rw [HN.out]; exact HNN.out) hq hql HFO.out
            have HFL := Lib.hid (fun (h : folE k z l (beg0 k) (o.take (j + 1)) ≠ 0) => show R = folE k z l (beg0 k) (o.take (j + 1)) by rw [HRv.out]; exact folE_fail (fun x hx => by have h1 := HNN.out x hx; have h2 := HN.out; omega) h)
            obtain ⟨bb, ob, hbb, hc⟩ := (HI.out wr HE.out) j hjl
            subst hbb
            have HC := Lib.hid (fun W (hW : Ext wk W) => show W.cell? ⟨bb, ob + j, none⟩ = some (.int .i64 (q : Int)) from by
              obtain ⟨b', o', e', hc'⟩ := (HI.out W hW) j hjl
              cases e'
              rw [← hq]
              exact hc')
            obtain ⟨ba, oa, hab, hx0⟩ := (HH.out wr HE.out) q hql
            subst hab
            have KFR := Lib.hid (fun W (hW : Ext wk W) => show Gives Tryd.prog 47 #[.slice (some ⟨ba, oa, none⟩) n c, .slice (some ⟨bb, ob, none⟩) j d, .int .i64 (q : Int)] W (.bool (freeR l (o.take j) q)) from by
              have := refFree_any l (o.take j) q (some ⟨ba, oa, none⟩) (some ⟨bb, ob, none⟩) c d W hql (by have := HN12.out; omega) (by rw [List.length_take]; omega) (HH.out W hW) ((HI.out W hW).pre j)
              rw [HN.out, List.length_take, Nat.min_eq_left (by omega)] at this
              exact this)
            have KAP := Lib.hid (fun W (hW : Ext wr W) => show Calls Tryd.prog 24 #[.agg #[.int .i64 k, .int .i64 z], .slice sa (stO k z l (beg0 k) (o.take j)).2.length sc, .int .i64 l[q].meth, .int .i64 l[q].arg] W (ApP W sa (stO k z l (beg0 k) (o.take j)).2 (apM k z (stO k z l (beg0 k) (o.take j)).2 l[q].meth l[q].arg)) from by
              have h1 := refApply_any k z (stO k z l (beg0 k) (o.take j)).2 l[q].meth l[q].arg sa sc W (by have := st_len HST.out; omega) (HIA.out W hW) HCA.out
              have h2 : apR k z (stO k z l (beg0 k) (o.take j)).2 l[q].meth l[q].arg = apM k z (stO k z l (beg0 k) (o.take j)).2 l[q].meth l[q].arg := by
                unfold apR
                rw [if_neg (by rw [HM.out]; simp), if_neg (by rw [HST.out]; simp)]
              rw [h2] at h1
              exact h1)
            obtain ⟨hk1, hk6⟩ := mdE_k HM.out
            have HAK := Lib.hid (fun (h : (apM k z (stO k z l (beg0 k) (o.take j)).2 l[q].meth l[q].arg).2.2 = 0) => stR_ap (a := l[q].arg) (m := l[q].meth) hk1 hk6 HST.out h)
            have HF1 := Lib.hid hf1
            have HS1 := Lib.hid hs1
            clear hf1 hs1 hxq hc hq hjl
            obtain ⟨F1, hF1⟩ : ∃ F, folE k z l (beg0 k) (o.take (j + 1)) = F := ⟨_, rfl⟩
            have HFE := Lib.hid hF1
            rw [hF1] at HF1 HFL
            clear hF1
            obtain ⟨S1, hS1⟩ : ∃ S, (stO k z l (beg0 k) (o.take (j + 1))).2 = S := ⟨_, rfl⟩
            have HSE := Lib.hid hS1
            rw [hS1] at HS1
            clear hS1
            generalize freeR l (o.take j) q = fr at *
            generalize l[q] = x at *
            obtain ⟨tk, me, ar, re, be, en⟩ := x
            obtain ⟨x0, x1, x2, x3, x4, x5⟩ := hx0
            dsimp only at *
            generalize apM k z (stO k z l (beg0 k) (o.take j)).2 me ar = Z at *
            generalize (stO k z l (beg0 k) (o.take j)).2 = L at *
            obtain ⟨L1, rs, er⟩ := Z
            dsimp only at *
            have hq0 : (0 : Int) ≤ (q : Int) := by omega
            have hq1 : (q : Int) < (n : Int) := by omega
            have xc := HC.out wr HE.out
            obtain ⟨w1, hw1⟩ : ∃ W, W = wr.alloc (cClO ⟨tk, me, ar, re, be, en⟩) := ⟨_, rfl⟩
            have hw1' : wr.alloc (.cells #[.int .i64 tk, .int .i64 me, .int .i64 ar, .int .i64 re, .int .i64 be, .int .i64 en] 48) = w1 := hw1.symm
            have HX1 := Lib.hid (show Ext wr w1 by rw [hw1]; exact ext_allocN _ _)
            have HB1 := Lib.hid (show w1.heap[wr.heap.size]? = some (.cells #[.int .i64 tk, .int .i64 me, .int .i64 ar, .int .i64 re, .int .i64 be, .int .i64 en] 48 (0, 0)) by rw [hw1]; exact alloc_here _ _)
            have HBX := Lib.hid (fun W (hW : Ext w1 W) => show W.cell? ⟨wr.heap.size, 0, none⟩ = some (.int .i64 tk) ∧ W.cell? ⟨wr.heap.size, 1, none⟩ = some (.int .i64 me) ∧ W.cell? ⟨wr.heap.size, 2, none⟩ = some (.int .i64 ar) ∧ W.cell? ⟨wr.heap.size, 3, none⟩ = some (.int .i64 re) ∧ W.cell? ⟨wr.heap.size, 4, none⟩ = some (.int .i64 be) ∧ W.cell? ⟨wr.heap.size, 5, none⟩ = some (.int .i64 en) from by
              have hb := (hW.below.block _ (lt_of_block HB1.out)).trans HB1.out
              exact ⟨cell_of hb rfl, cell_of hb rfl, cell_of hb rfl, cell_of hb rfl, cell_of hb rfl, cell_of hb rfl⟩)
            have HE1 := Lib.hid (Ext.trans HE.out HX1.out)
            clear hw1
            go_wp2_with fail
            try rw [hw1']
            clear xc x0 x1 x2 x3 x4 x5
            refine wp_region_tail (l1 := [_, _, _, _, _, _, _, _]) (l2 := [_, _]) (by kernel_rfl) Ext (fun W => Below.refl _ W) (fun W => show Below W.heap.size W { W with drawn := W.drawn + 1 } from ⟨rfl, rfl, rfl, Nat.le_refl _, fun _ _ => rfl⟩) Ext.trans
              (fun i s W => match i with
                | 0 => s 0 = .slice (some ⟨ba, oa, none⟩) n c
                | 1 => s 1 = .slice (some ⟨bb, ob, none⟩) lo d
                | 2 => s 2 = .int .i64 (j : Int)
                | 3 => s 3 = .slice (some ⟨bb, ob, none⟩) j d
                | 4 => s 4 = .slice (some ⟨bb, ob, none⟩) lo d
                | 5 => s 5 = .int .i64 (j : Int)
                | 6 => s 6 = .pointer (some ⟨bb, ob + j, none⟩)
                | 7 => s 7 = .int .i64 (q : Int)
                | _ => True)
              (fun i => [i])
              (by
                intro i s s' W W' h hs hE
                have hs := hs i (by simp)
                match i, h, hs with
                | 0, h, hs => exact hs.trans h
                | 1, h, hs => exact hs.trans h
                | 2, h, hs => exact hs.trans h
                | 3, h, hs => exact hs.trans h
                | 4, h, hs => exact hs.trans h
                | 5, h, hs => exact hs.trans h
                | 6, h, hs => exact hs.trans h
                | 7, h, hs => exact hs.trans h
                | i + 8, h, hs => exact trivial)
              (by kernel_rfl) (by kernel_rfl) (by kernel_rfl) 102 rfl (by kernel_rfl) (by kernel_rfl) ?_ ?_
            · intro i op ho a' W hA
              have x0 := HC.out W (Ext.trans HE1.out hA.rel)
              match i, ho with
              | 0, ho =>
                obtain rfl := Option.some.inj ho
                have e1 : a'.eval (.tmp 1) = .slice (some ⟨ba, oa, none⟩) n c := hA.keep 1 (by kernel_rfl)
                refine GoesG.value (.slice (some ⟨ba, oa, none⟩) n c) rfl ?_ (Below.refl _ _) (fun s h1 h2 => h1 rfl)
                simp only [execOp, e1]
                simp [go_sem, x0, hi0, hi1, hjd, hjd2]
              | 1, ho =>
                obtain rfl := Option.some.inj ho
                have e1 : a'.eval (.tmp 2) = .slice (some ⟨bb, ob, none⟩) lo d := hA.keep 2 (by kernel_rfl)
                refine GoesG.value (.slice (some ⟨bb, ob, none⟩) lo d) rfl ?_ (Below.refl _ _) (fun s h1 h2 => h1 rfl)
                simp only [execOp, e1]
                simp [go_sem, x0, hi0, hi1, hjd, hjd2]
              | 2, ho =>
                obtain rfl := Option.some.inj ho
                have e1 : a'.eval (.tmp 10) = .int .i64 (j : Int) := hA.keep 10 (by kernel_rfl)
                refine GoesG.value (.int .i64 (j : Int)) rfl ?_ (Below.refl _ _) (fun s h1 h2 => h1 rfl)
                simp only [execOp, e1]
                simp [go_sem, x0, hi0, hi1, hjd, hjd2]
              | 3, ho =>
                obtain rfl := Option.some.inj ho
                have e1 : a'.eval (.tmp 69) = .slice (some ⟨bb, ob, none⟩) lo d := (sv_dst (l := _) rfl).symm.trans (hA.new 1 (by decide) (by kernel_rfl))
                have e2 : a'.eval (.tmp 70) = .int .i64 (j : Int) := (sv_dst (l := _) rfl).symm.trans (hA.new 2 (by decide) (by kernel_rfl))
                refine GoesG.value (.slice (some ⟨bb, ob, none⟩) j d) rfl ?_ (Below.refl _ _) (fun s h1 h2 => h1 rfl)
                simp [Act.eval] at e1 e2
                simp [execOp, go_sem, e1, e2, hi0, hjd, hjd2]
              | 4, ho =>
                obtain rfl := Option.some.inj ho
                have e1 : a'.eval (.tmp 2) = .slice (some ⟨bb, ob, none⟩) lo d := hA.keep 2 (by kernel_rfl)
                refine GoesG.value (.slice (some ⟨bb, ob, none⟩) lo d) rfl ?_ (Below.refl _ _) (fun s h1 h2 => h1 rfl)
                simp only [execOp, e1]
                simp [go_sem, x0, hi0, hi1, hjd, hjd2]
              | 5, ho =>
                obtain rfl := Option.some.inj ho
                have e1 : a'.eval (.tmp 10) = .int .i64 (j : Int) := hA.keep 10 (by kernel_rfl)
                refine GoesG.value (.int .i64 (j : Int)) rfl ?_ (Below.refl _ _) (fun s h1 h2 => h1 rfl)
                simp only [execOp, e1]
                simp [go_sem, x0, hi0, hi1, hjd, hjd2]
              | 6, ho =>
                obtain rfl := Option.some.inj ho
                have e1 : a'.eval (.tmp 72) = .slice (some ⟨bb, ob, none⟩) lo d := (sv_dst (l := _) rfl).symm.trans (hA.new 4 (by decide) (by kernel_rfl))
                have e2 : a'.eval (.tmp 73) = .int .i64 (j : Int) := (sv_dst (l := _) rfl).symm.trans (hA.new 5 (by decide) (by kernel_rfl))
                refine GoesG.value (.pointer (some ⟨bb, ob + j, none⟩)) rfl ?_ (Below.refl _ _) (fun s h1 h2 => h1 rfl)
                simp only [execOp, e1, e2]
                simp [go_sem, x0, hi0, hi1, hjd, hjd2]
              | 7, ho =>
                obtain rfl := Option.some.inj ho
                have e1 : a'.eval (.tmp 74) = .pointer (some ⟨bb, ob + j, none⟩) := (sv_dst (l := _) rfl).symm.trans (hA.new 6 (by decide) (by kernel_rfl))
                refine GoesG.value (.int .i64 (q : Int)) rfl ?_ (Below.refl _ _) (fun s h1 h2 => h1 rfl)
                simp only [execOp, e1]
                simp [go_sem, x0, hi0, hi1, hjd, hjd2]
              | i + 8, ho => cases ho
            · intro vs w4 hvs hG hΦ
              obtain ⟨y0, y1, y2, y3, y4, y5, y6, y7, rfl⟩ : ∃ y0 y1 y2 y3 y4 y5 y6 y7, vs = y0 :: y1 :: y2 :: y3 :: y4 :: y5 :: y6 :: y7 :: [] := by
                match vs, hvs with
                | y0 :: y1 :: y2 :: y3 :: y4 :: y5 :: y6 :: y7 :: [], _ => exact ⟨y0, y1, y2, y3, y4, y5, y6, y7, rfl⟩
              have e0 : y0 = .slice (some ⟨ba, oa, none⟩) n c := hΦ 0 (by decide)
              subst e0
              have e1 : y1 = .slice (some ⟨bb, ob, none⟩) lo d := hΦ 1 (by decide)
              subst e1
              have e2 : y2 = .int .i64 (j : Int) := hΦ 2 (by decide)
              subst e2
              have e3 : y3 = .slice (some ⟨bb, ob, none⟩) j d := hΦ 3 (by decide)
              subst e3
              have e4 : y4 = .slice (some ⟨bb, ob, none⟩) lo d := hΦ 4 (by decide)
              subst e4
              have e5 : y5 = .int .i64 (j : Int) := hΦ 5 (by decide)
              subst e5
              have e6 : y6 = .pointer (some ⟨bb, ob + j, none⟩) := hΦ 6 (by decide)
              subst e6
              have e7 : y7 = .int .i64 (q : Int) := hΦ 7 (by decide)
              subst e7
              clear hΦ hvs
              simp only [putAll, Act.put, List.setIfInBounds_toArray, List.set_cons_succ, List.set_cons_zero]
              try simp only [putAll, Act.put, List.setIfInBounds_toArray, List.set_cons_succ, List.set_cons_zero]
              have HX4 := Lib.hid (show Ext w1 w4 from hG)
              have HE4 := Lib.hid (Ext.trans HE1.out HX4.out)
              clear hG
              have C := Lib.hid (KFR.out w4 HE4.out)
              cases fr with
              | false =>
                have HRw := Lib.hid (show R = 9 by
                  have h1 := HF1.out
                  rw [if_pos rfl] at h1
                  rw [HFL.out (by rw [h1]; omega), h1])
                clear HF1 HFL HRv
                go_wp2_with fail
                refine C.out.mono ?_
                intro w5 hE5
                have HE5 := Lib.hid (Ext.trans HE4.out hE5)
                clear hE5
                go_wp2
                go_ret
                exact ⟨by rw [HRw.out]; rfl, Ext.trans HX.out HE5.out⟩
              | true =>
                have HF2 := Lib.hid (show F1 = if er ≠ 0 then er else if en ≠ -1 ∧ rs ≠ re then 10 else 0 from by
                  have h1 := HF1.out
                  rw [if_neg (by simp)] at h1
                  exact h1)
                clear HF1
                go_wp2_with fail
                refine C.out.mono ?_
                intro w5 hE5
                have HX5 := Lib.hid (Ext.trans HX4.out hE5)
                have HE5 := Lib.hid (Ext.trans HE4.out hE5)
                clear hE5
                obtain ⟨b0, b1, b2, b3, b4, b5⟩ := HBX.out w5 HX5.out
                obtain ⟨m0, m1⟩ := HMD.out w5 HE5.out
                go_wp2_with fail
                refine (KAP.out w5 (Ext.trans HX1.out HX5.out)).mono ?_
                rintro e w6 ⟨a6, c6, rfl, hI6, hc6, hE6, hF6⟩
                have HI6 := Lib.hid hI6
                have HC6 := Lib.hid hc6
                have HX6 := Lib.hid (Ext.trans HX5.out hE6)
                have HE6 := Lib.hid (Ext.trans HE5.out hE6)
                dsimp only at HI6 HC6
                clear hI6 hc6 hF6 hE6 b0 b1 b2 b3 b4 b5 m0 m1
                obtain ⟨b0, b1, b2, b3, b4, b5⟩ := HBX.out w6 HX6.out
                by_cases her : er = 0
                · subst her
                  have HF3 := Lib.hid (show F1 = if en ≠ -1 ∧ rs ≠ re then 10 else 0 from by
                    have := HF2.out
                    rw [if_neg (by simp)] at this
                    exact this)
                  clear HF2
                  by_cases hbad : en ≠ -1 ∧ rs ≠ re
                  · have HRw := Lib.hid (show R = 10 by
                      have h1 := HF3.out
                      rw [if_pos hbad] at h1
                      rw [HFL.out (by rw [h1]; omega), h1])
                    have g4 : (en != -1) = true := by rw [bne_iff_ne]; exact hbad.1
                    have g5 : (rs != re) = true := by rw [bne_iff_ne]; exact hbad.2
                    clear hbad HF3 HFL HRv
                    go_wp2
                    go_ret
                    exact ⟨by rw [HRw.out]; rfl, Ext.trans HX.out HE6.out⟩
                  · have HFN := Lib.hid (show F1 = 0 from by
                      have := HF3.out
                      rw [if_neg hbad] at this
                      exact this)
                    have hcase : ((en != -1) = false) ∨ ((en != -1) = true ∧ (rs != re) = false) := by
                      by_cases h0 : en = -1
                      · left; simpa using h0
                      · right
                        refine ⟨by rw [bne_iff_ne]; exact h0, ?_⟩
                        by_cases h1 : rs = re
                        · simpa using h1
                        · exact absurd ⟨h0, h1⟩ hbad
                    clear hbad HF3 HFL HRv
                    rcases hcase with g4 | ⟨g4, g5⟩
                    all_goals
                      have HSL := Lib.hid (HSE.out.trans HS1.out)
                      go_wp2
                      exact ⟨⟨j + 1, by omega, by go_num, HFE.out.trans HFN.out, (by rw [HSL.out]; exact HAK.out trivial), ⟨a6, c6, by rw [HSL.out], by rw [HSL.out]; exact HI6.out, by rw [HSL.out]; exact HC6.out⟩, HE6.out⟩, by simp [intOf]; omega⟩
                · have HRw := Lib.hid (show R = er by
                    have h1 := HF2.out
                    rw [if_pos her] at h1
                    rw [HFL.out (by rw [h1]; exact her), h1])
                  have g3 : (er != 0) = true := by rw [bne_iff_ne]; exact her
                  clear her HF2 HFL HRv
                  go_wp2
                  go_ret
                  exact ⟨by rw [HRw.out]; rfl, Ext.trans HX.out HE6.out⟩
          · have hjl : lo = j := by omega
            subst hjl
            have HRw := Lib.hid (show R = 0 by
              have h1 := HFO.out
              rw [← HL.out, List.take_length] at h1
              rw [HRv.out, h1])
            go_wp2
            go_ret
            exact ⟨by rw [HRw.out]; rfl, Ext.trans HX.out HE.out⟩
end Go.Proofs.YtmbkjccckmlacaaDoor

namespace Go.Proofs.YtmbkjccckmlacaaDoor
open Go.RowKit
set_option linter.unusedVariables false
set_option linter.unusedSimpArgs false

theorem refVerify_all (k z : Int) (l : List Cl) (o : List Int) (a b : Option Addr) (c d : Nat) (w : World) (hm : l.length ≤ maxLen) (h : HsAt w a l) (hI : IntsAt w b o) (ho : o.length ≤ d) (ho2 : o.length ≤ 1000) :
    Gives Tryd.prog 22 #[.agg #[.int .i64 k, .int .i64 z], .slice a l.length c, .slice b o.length d] w (.int .i64 (verR k z l o)) := by
  by_cases hb : srE k z l = 0
  · exact refVer_any k z l o a b c d w hm h hI ho ho2 hb
  · exact refVerBad_any k z l o a b c d w hm h hI hb
set_option maxRecDepth 100000 in
set_option maxHeartbeats 4000000 in
theorem linearizeVerify_walk (k z : Int) (l : List Cl) (a : Option Addr) (c : Nat) (o : Option Addr) (lo co : Nat) (zs : List Int) (w : World) (hO : OpIn w a c l) (hZ : IsRow .i64 w o lo co zs) (hT : TabW w) :
    Gives Tryd.prog 5 #[.agg #[.int .i64 k, .int .i64 z], .slice a l.length c, .slice o lo co] w (.bool true) := by
  obtain ⟨hHs, hlc, hlm, -⟩ := hO
  obtain ⟨order, hol, hom, hoI, -⟩ := hZ.ints
  have hloc : lo ≤ co := by rcases hZ with ⟨h1, h2, h3, h4⟩ | ⟨x, h1, hl, hm, hz, hcell, hwz⟩ <;> omega
  clear hZ
  unfold Gives
  have KA := Lib.hid (fun W (hW : Ext w W) => awake_any W (hT.below hW.below))
  have HX1 := Lib.hid (ext_allocN w (.cells #[.int .i64 k, .int .i64 z] 23))
  have HMD := Lib.hid (mdCells w k z)
  have KG := Lib.hid (fun W => great_any l.length a c W)
  cases hg : grH l.length with
  | true =>
    rw [hg] at KG
    clear hlc hlm hHs hT hol hom hoI
    generalize l.length = len at *
    go_enter Tryd.func5, Tryd.ntmps5
    go_wp2_with fail
    refine (KG.out _).mono ?_
    intro w2 hE2
    have HE2 := Lib.hid (Ext.trans HX1.out hE2)
    clear hE2
    go_wp2_with fail
    refine (KA.out _ HE2.out).mono ?_
    intro w3 hE3
    have HE3 := Lib.hid (Ext.trans HE2.out hE3)
    clear hE3
    go_wp2
    go_ret
    exact ⟨rfl, HE3.out⟩
  | false =>
    have hl := grH_leF hg
    rw [hg] at KG
    by_cases h20 : 20 < lo
    · have d20 : decide ((20 : Int) < (lo : Int)) = true := by simp; omega
      clear hlc hlm hHs hT hol hoI h20
      unfold maxLen at hom
      generalize l.length = len at *
      go_enter Tryd.func5, Tryd.ntmps5
      go_wp2_with fail
      refine (KG.out _).mono ?_
      intro w2 hE2
      have HE2 := Lib.hid (Ext.trans HX1.out hE2)
      clear hE2
      go_wp2_with fail
      refine (KA.out _ HE2.out).mono ?_
      intro w3 hE3
      have HE3 := Lib.hid (Ext.trans HE2.out hE3)
      clear hE3
      go_wp2
      go_ret
      exact ⟨rfl, HE3.out⟩
    · have d20 : decide ((20 : Int) < (lo : Int)) = false := by simp; omega
      have KV := Lib.hid (fun W (hW : Ext w W) => show Gives Tryd.prog 21 #[.agg #[.int .i64 k, .int .i64 z], .slice a l.length c, .slice o lo co] W (.int .i64 (verR k z l order)) from by
        rw [← hol]; exact Verify_any k z l order a o c co W (hHs.ext hW) hlm (hoI.ext hW) (by omega))
      have KR := Lib.hid (fun W (hW : Ext w W) => show Gives Tryd.prog 22 #[.agg #[.int .i64 k, .int .i64 z], .slice a l.length c, .slice o lo co] W (.int .i64 (verR k z l order)) from by
        rw [← hol]; exact refVerify_all k z l order a o c co W hlm (hHs.ext hW) (hoI.ext hW) (by rw [hol]; exact hloc) (by omega))
      unfold maxLen at hom
      clear hlc hlm hHs hT hoI h20 hg hl
      generalize verR k z l order = vo at *
      obtain ⟨len, hlen⟩ : ∃ n, l.length = n := ⟨_, rfl⟩
      rw [hlen] at KG KV KR ⊢
      clear hlen
      go_enter Tryd.func5, Tryd.ntmps5
      go_wp2_with fail
      refine (KG.out _).mono ?_
      intro w2 hE2
      have HX2 := Lib.hid hE2
      have HE2 := Lib.hid (Ext.trans HX1.out hE2)
      clear hE2
      go_wp2_with fail
      refine wp_region_tail (l1 := [_, _, _, _, _, _, _, _]) (l2 := [_, _, _, _, _]) (by kernel_rfl) Ext (fun W => Below.refl _ W) (fun W => show Below W.heap.size W { W with drawn := W.drawn + 1 } from ⟨rfl, rfl, rfl, Nat.le_refl _, fun _ _ => rfl⟩) Ext.trans
        (fun i s W => match i with
          | 0 => s 0 = .agg #[.int .i64 k, .int .i64 z]
          | 1 => s 1 = .slice a len c
          | 2 => s 2 = .slice o lo co
          | 3 => s 3 = .int .i64 vo
          | 4 => s 4 = .agg #[.int .i64 k, .int .i64 z]
          | 5 => s 5 = .slice a len c
          | 6 => s 6 = .slice o lo co
          | 7 => s 7 = .int .i64 vo
          | _ => True)
        (fun i => [i])
        (by
          intro i s s' W W' h hs hE
          have hs := hs i (by simp)
          match i, h, hs with
          | 0, h, hs => exact hs.trans h
          | 1, h, hs => exact hs.trans h
          | 2, h, hs => exact hs.trans h
          | 3, h, hs => exact hs.trans h
          | 4, h, hs => exact hs.trans h
          | 5, h, hs => exact hs.trans h
          | 6, h, hs => exact hs.trans h
          | 7, h, hs => exact hs.trans h
          | i + 8, h, hs => exact trivial)
        (by kernel_rfl) (by kernel_rfl) (by kernel_rfl) 27 rfl (by kernel_rfl) (by kernel_rfl) ?_ ?_
      · intro i op ho a' W hA
        obtain ⟨m0, m1⟩ := HMD.out W (Ext.trans HX2.out hA.rel)
        match i, ho with
        | 0, ho =>
          obtain rfl := Option.some.inj ho
          have e1 : a'.eval (.tmp 3) = .pointer (some ⟨w.heap.size, 0, none⟩) := hA.keep 3 (by kernel_rfl)
          refine GoesG.value (.agg #[.int .i64 k, .int .i64 z]) rfl ?_ (Below.refl _ _) (fun s h1 h2 => h1 rfl)
          simp only [execOp, e1]
          simp [go_sem, m0, m1]
        | 1, ho =>
          obtain rfl := Option.some.inj ho
          have e1 : a'.eval (.tmp 1) = .slice a len c := hA.keep 1 (by kernel_rfl)
          refine GoesG.value (.slice a len c) rfl ?_ (Below.refl _ _) (fun s h1 h2 => h1 rfl)
          simp only [execOp, e1]
          simp [go_sem, m0, m1]
        | 2, ho =>
          obtain rfl := Option.some.inj ho
          have e1 : a'.eval (.tmp 2) = .slice o lo co := hA.keep 2 (by kernel_rfl)
          refine GoesG.value (.slice o lo co) rfl ?_ (Below.refl _ _) (fun s h1 h2 => h1 rfl)
          simp only [execOp, e1]
          simp [go_sem, m0, m1]
        | 3, ho =>
          obtain rfl := Option.some.inj ho
          have e1 : a'.eval (.tmp 15) = .agg #[.int .i64 k, .int .i64 z] := (sv_dst (l := _) rfl).symm.trans (hA.new 0 (by decide) (by kernel_rfl))
          have e2 : a'.eval (.tmp 16) = .slice a len c := (sv_dst (l := _) rfl).symm.trans (hA.new 1 (by decide) (by kernel_rfl))
          have e3 : a'.eval (.tmp 17) = .slice o lo co := (sv_dst (l := _) rfl).symm.trans (hA.new 2 (by decide) (by kernel_rfl))
          refine GoesG.call 21 #[.agg #[.int .i64 k, .int .i64 z], .slice a len c, .slice o lo co] rfl ?_ ?_
          · have en := enters_fn Tryd.func21 (by kernel_rfl) rfl
            simp [Act.eval] at e1 e2 e3
            simp [execOp, go_sem, e1, e2, e3, en]
          · refine (KV.out W (Ext.trans HE2.out hA.rel)).mono ?_
            intro W2 hE
            exact ⟨_, rfl, hE, fun s g1 g2 => g1 rfl⟩
        | 4, ho =>
          obtain rfl := Option.some.inj ho
          have e1 : a'.eval (.tmp 3) = .pointer (some ⟨w.heap.size, 0, none⟩) := hA.keep 3 (by kernel_rfl)
          refine GoesG.value (.agg #[.int .i64 k, .int .i64 z]) rfl ?_ (Below.refl _ _) (fun s h1 h2 => h1 rfl)
          simp only [execOp, e1]
          simp [go_sem, m0, m1]
        | 5, ho =>
          obtain rfl := Option.some.inj ho
          have e1 : a'.eval (.tmp 1) = .slice a len c := hA.keep 1 (by kernel_rfl)
          refine GoesG.value (.slice a len c) rfl ?_ (Below.refl _ _) (fun s h1 h2 => h1 rfl)
          simp only [execOp, e1]
          simp [go_sem, m0, m1]
        | 6, ho =>
          obtain rfl := Option.some.inj ho
          have e1 : a'.eval (.tmp 2) = .slice o lo co := hA.keep 2 (by kernel_rfl)
          refine GoesG.value (.slice o lo co) rfl ?_ (Below.refl _ _) (fun s h1 h2 => h1 rfl)
          simp only [execOp, e1]
          simp [go_sem, m0, m1]
        | 7, ho =>
          obtain rfl := Option.some.inj ho
          have e1 : a'.eval (.tmp 19) = .agg #[.int .i64 k, .int .i64 z] := (sv_dst (l := _) rfl).symm.trans (hA.new 4 (by decide) (by kernel_rfl))
          have e2 : a'.eval (.tmp 20) = .slice a len c := (sv_dst (l := _) rfl).symm.trans (hA.new 5 (by decide) (by kernel_rfl))
          have e3 : a'.eval (.tmp 21) = .slice o lo co := (sv_dst (l := _) rfl).symm.trans (hA.new 6 (by decide) (by kernel_rfl))
          refine GoesG.call 22 #[.agg #[.int .i64 k, .int .i64 z], .slice a len c, .slice o lo co] rfl ?_ ?_
          · have en := enters_fn Tryd.func22 (by kernel_rfl) rfl
            simp [Act.eval] at e1 e2 e3
            simp [execOp, go_sem, e1, e2, e3, en]
          · refine (KR.out W (Ext.trans HE2.out hA.rel)).mono ?_
            intro W2 hE
            exact ⟨_, rfl, hE, fun s g1 g2 => g1 rfl⟩
        | i + 8, ho => cases ho
      · intro vs w4 hvs hG hΦ
        obtain ⟨y0, y1, y2, y3, y4, y5, y6, y7, rfl⟩ : ∃ y0 y1 y2 y3 y4 y5 y6 y7, vs = y0 :: y1 :: y2 :: y3 :: y4 :: y5 :: y6 :: y7 :: [] := by
          match vs, hvs with
          | y0 :: y1 :: y2 :: y3 :: y4 :: y5 :: y6 :: y7 :: [], _ => exact ⟨y0, y1, y2, y3, y4, y5, y6, y7, rfl⟩
        have e0 : y0 = .agg #[.int .i64 k, .int .i64 z] := hΦ 0 (by decide)
        subst e0
        have e1 : y1 = .slice a len c := hΦ 1 (by decide)
        subst e1
        have e2 : y2 = .slice o lo co := hΦ 2 (by decide)
        subst e2
        have e3 : y3 = .int .i64 vo := hΦ 3 (by decide)
        subst e3
        have e4 : y4 = .agg #[.int .i64 k, .int .i64 z] := hΦ 4 (by decide)
        subst e4
        have e5 : y5 = .slice a len c := hΦ 5 (by decide)
        subst e5
        have e6 : y6 = .slice o lo co := hΦ 6 (by decide)
        subst e6
        have e7 : y7 = .int .i64 vo := hΦ 7 (by decide)
        subst e7
        clear hΦ hvs
        simp only [putAll, Act.put, List.setIfInBounds_toArray, List.set_cons_succ, List.set_cons_zero]
        try simp only [putAll, Act.put, List.setIfInBounds_toArray, List.set_cons_succ, List.set_cons_zero]
        have HE4 := Lib.hid (Ext.trans HE2.out (show Ext w2 w4 from hG))
        clear hG
        go_wp2_with fail
        refine (KA.out _ HE4.out).mono ?_
        intro w6 hE6
        have HE6 := Lib.hid (Ext.trans HE4.out hE6)
        clear hE6
        go_wp2
        go_ret
        exact ⟨rfl, HE6.out⟩
end Go.Proofs.YtmbkjccckmlacaaDoor

namespace Go.Proofs.YtmbkjccckmlacaaDoor.linearizeVerify
open Go.ChangeShapes Go.WideShapes Go.ChangeAt Go.RowKit
open Go.ChangeMaps (open_string shut_string)
set_option linter.unusedVariables false

theorem own : ownKnob Tryd.prog.godebug = none := by kernel_rfl
theorem laidOut : laidOutB Tryd.prog = true := by kernel_rfl
/-- the cells of a datum of plain values -/
def flat : Nat → DataW Unit → List Value
  | _, .lit l => [l.value]
  | n + 1, .agg ps => ps.flatMap (flat n)
  | _, _ => []
/-- a world for the witness: the settled one, the listed tables holding what the text lays -/
def lay (d : DataW Unit) : Obj → Obj
  | .cells _ t frozen => .cells (flat 4 d).toArray t frozen
  | o => o
noncomputable def laidWorld (os : Os) : World :=
  { World.holding Tryd.prog os ⟨#[], #[], []⟩ with heap := ((((World.holding Tryd.prog os ⟨#[], #[], []⟩).heap.modify 1 (lay Rows.laid_math_bits_deBruijn32tab)).modify 2 (lay Rows.laid_math_bits_deBruijn64tab)).modify 0 (lay Rows.laid_internal_strconv_uint64pow10)) }
theorem laid_met (os : Os) : laidMet Tryd.prog Rows.linearizeVerifyRow.laid ((laidWorld os).forCall (fun _ _ => 0) ⟨#[], #[.agg #[.int .i64 0, .int .i64 0], .slice none 0 0, .slice none 0 0], []⟩).memory :=
  laidMet_of_run' 8 (by kernel_rfl) (by kernel_rfl)
theorem reads (os : Os) {H : Type} (enc : TypeId × Value → H) : ∃ places, DataW.whole enc Tryd.prog ((laidWorld os).forCall (fun _ _ => 0) ⟨#[], #[.agg #[.int .i64 0, .int .i64 0], .slice none 0 0, .slice none 0 0], []⟩).memory Tryd.f5.params.toList Rows.linearizeVerifySpec.vars false (#[.agg #[.int .i64 0, .int .i64 0], .slice none 0 0, .slice none 0 0] : Array Value).toList 8 = some ([.agg [.lit (.int .i64 0), .lit (.int .i64 0)], .nil, .nil], [], places) :=
  ⟨[], by kernel_rfl⟩
theorem tab (W : World) (h : laidMetH Tryd.prog Rows.linearizeVerifyRow.laid W) : TabW W := by
  have h1 : laidMet Tryd.prog Rows.linearizeVerifyRow.laid W := h
  exact Lib.tabIs_of_head (g := 0) (t := 129) (e := 116) (n := 20) (by kernel_rfl) (by kernel_rfl) Tryd.underlying129 Tryd.underlying116 (by kernel_rfl) (by kernel_rfl) h1.tail.tail
set_option maxRecDepth 100000 in
theorem contract (H : Type) (enc : TypeId × Value → H) (W : World) (base : Nat) (args : Array Value) (ds gs : List (DataW H)) (before : List MemPlace)
    (hval0 : ∀ (j : Nat) t v, Tryd.f5.params[j]? = some t → args[j]? = some v → Value.okWide Tryd.prog W .any base t v)
    (hW : DataW.Whole enc Tryd.prog Tryd.f5.params.toList Rows.linearizeVerifySpec.vars false W args.toList ds gs before) (hz : (DataW.weightsEach Tryd.prog (Tryd.f5.params.toList ++ (OpenSpec.ofChange Rows.linearizeVerifySpec).bare.plain.varTypes Tryd.prog) (ds ++ gs)).all (· ≤ reachBytes) = true) (hL : laidMetH Tryd.prog Rows.linearizeVerifyRow.laid W) :
    Calls Tryd.prog 5 args W fun e W' => ∃ v, e = .returned v ∧ Rows.linearizeVerifySpec.post enc Tryd.prog Tryd.f5 false true false false W args v W' := by
  have hval := hval0
  have hW' := hW
  obtain ⟨p, q, hA0, hV, rfl, hfz, hnd⟩ := hW
  have hA : DataW.TrodAll enc Tryd.prog W 0 (fun _ => true) true Tryd.f5.params.toList args.toList ds p := hA0
  rw [Tryd.params5] at hA hval
  obtain ⟨v0, vs0, d0, ds0, p0, q0, hargs, rfl, rfl, h0, r0⟩ := trodAll_cons hA
  obtain ⟨v1, vs1, d1, ds1, p1, q1, rfl, rfl, rfl, h1, r1⟩ := trodAll_cons r0
  obtain ⟨v2, vs2, d2, ds2, p2, q2, rfl, rfl, rfl, h2, r2⟩ := trodAll_cons r1
  obtain ⟨rfl, rfl, rfl⟩ := trodAll_nil r2
  obtain rfl : args = #[v0, v1, v2] := by cases args; simp_all
  obtain ⟨rfl, rfl⟩ := trodVars_none hV
  have k0 := h0
  have lt0 : ∀ x ∈ p0, x.block < W.heap.size := by obtain ⟨m, hm⟩ := k0; exact DataW.trod_lt m _ _ _ hm
  obtain ⟨mk0, mz0, rfl, wk0, wz0⟩ := open_md (hval 0 23 v0 rfl rfl) h0
  obtain ⟨a1, len1, cap1, rfl⟩ := okWide_slice Tryd.underlying24 (hval 1 24 v1 rfl rfl)
  have k1 := h1
  have lt1 : ∀ x ∈ p1, x.block < W.heap.size := by obtain ⟨m, hm⟩ := k1; exact DataW.trod_lt m _ _ _ hm
  obtain ⟨tk1, rfl, w1⟩ := open_ops h1
  obtain ⟨a2, len2, cap2, rfl⟩ := okWide_slice Tryd.underlying27 (hval 2 27 v2 rfl rfl)
  have k2 := h2
  have lt2 : ∀ x ∈ p2, x.block < W.heap.size := by obtain ⟨m, hm⟩ := k2; exact DataW.trod_lt m _ _ _ hm
  obtain ⟨z2, w2⟩ : ∃ zs, IsRow .i64 W a2 len2 cap2 zs := by
    obtain ⟨fuel, hf⟩ := h2
    rcases open_ints Tryd.underlying27 Tryd.underlying3 (by kernel_rfl) hf with ⟨hcs, _⟩ | ⟨x, l, c, zs, hcs, _, hl, hm, hz, _, hcell, hwz⟩
    · simp [Value.cells] at hcs
      obtain ⟨rfl, rfl, rfl⟩ := hcs
      exact ⟨[], .inl ⟨rfl, rfl, rfl, rfl⟩⟩
    · simp [Value.cells] at hcs
      obtain ⟨rfl, rfl, rfl⟩ := hcs
      exact ⟨zs, .inr ⟨_, rfl, hl, hm, by simpa using hz, hcell, hwz⟩⟩
  clear hA0 hval0 hz
  refine (linearizeVerify_walk mk0 mz0 tk1 a1 cap1 a2 len2 cap2 z2 W w1 w2 (tab W hL)).mono fun W' bel => ?_
  exact ⟨_, rfl, _, _, _, [], _, [], hW', trodAll_mk1 (shut_bool Tryd.underlying4 _), (trodAll_cons_mk (Below.trod laidOut (by kernel_rfl) (of_decide_eq_true (by kernel_rfl)) k0 bel lt0) (trodAll_cons_mk (Below.trod laidOut (by kernel_rfl) (of_decide_eq_true (by kernel_rfl)) k1 bel lt1) (trodAll_cons_mk (Below.trod laidOut (by kernel_rfl) (of_decide_eq_true (by kernel_rfl)) k2 bel lt2) trodAll_mk0))), rfl, bel.frame _, fun h => by cases h⟩

set_option maxRecDepth 100000 in
theorem lifted (os : Os) (started : os.Started) (H : Type) (enc : TypeId × Value → H) (F : Stop.Interp) :
    ReturnsInHanded {} Tryd.checked os 5 .any ((OpenSpec.ofChange Rows.linearizeVerifySpec).preRow enc Tryd.prog Tryd.f5 Rows.linearizeVerifyRow.domain false Rows.linearizeVerifyRow.laid) (((OpenSpec.ofChange Rows.linearizeVerifySpec).at F).post enc Tryd.prog Tryd.f5 false true false false) := by
  obtain ⟨places, hx⟩ := reads os enc
  refine returnsInHanded_of_row (C := Tryd.checked) (s := OpenSpec.ofChange Rows.linearizeVerifySpec) own started (by kernel_rfl) Tryd.func5
    (witness_row_at (enc := enc) (C := Tryd.checked) false (laidWorld os) #[.agg #[.int .i64 0, .int .i64 0], .slice none 0 0, .slice none 0 0] rfl (by kernel_rfl) (by kernel_rfl) (by kernel_rfl)
      (OpenSpec.preRow_of_cond 8 hx (by kernel_rfl) (fun k hk => by cases hk) (by kernel_rfl) (laid_met os))) ?_
  intro W base args ds gs before hval hW _ _ hz hL hsh _
  exact contract H enc W base args ds gs before hval hW hz hL

theorem said : Rows.LinearizeVerifySaid :=
  OpenClaim.holds_of_cond 5 Tryd.f5 rfl rfl rfl rfl rfl rfl rfl ⟨rfl, rfl, rfl, rfl, rfl⟩ rfl rfl rfl rfl rfl (by kernel_rfl) Tryd.func5 (by kernel_rfl)
    (of_decide_eq_true (by kernel_rfl)) (by unfold Func.isWrapper; first | (rw [if_pos (by decide +kernel)]; kernel_rfl) | (rw [if_neg (by decide +kernel)]; exact ⟨rfl, rfl⟩))
    (fun os started H enc _ F => by rw [OpenClaim.pre_eq_preRow]; exact lifted os started H enc F)

theorem plain (f : FuncId) (fn : Func) (hf : Tryd.pinned.checked.prog.funcNamed "nursery/nurserylaw44.LinearizeVerify" = some f) (hfn : Tryd.pinned.checked.prog.funcs[f]? = some fn) :
    false = Tryd.pinned.checked.prog.looks [] ∧ ∀ (j : Nat) t, fn.params[j]? = some t → Tryd.pinned.checked.prog.wantsStandIn t = false := by
  obtain rfl : f = 5 := Option.some.inj ((show Tryd.prog.funcNamed "nursery/nurserylaw44.LinearizeVerify" = some 5 by kernel_rfl).symm.trans hf) |>.symm
  obtain rfl : fn = Tryd.f5 := (Option.some.inj (Tryd.func5.symm.trans hfn)).symm
  refine ⟨by kernel_rfl, fun j t ht => ?_⟩
  rw [Tryd.params5] at ht
  rcases j with _ | _ | _ | j
  · obtain rfl : t = 23 := by simpa using ht.symm
    exact (show Tryd.prog.wantsStandIn 23 = false by kernel_rfl)
  · obtain rfl : t = 24 := by simpa using ht.symm
    exact (show Tryd.prog.wantsStandIn 24 = false by kernel_rfl)
  · obtain rfl : t = 27 := by simpa using ht.symm
    exact (show Tryd.prog.wantsStandIn 27 = false by kernel_rfl)
  · simp at ht

/-- the statement -/
theorem proved : Rows.LinearizeVerifyCardSaid :=
  Claim7.holds_tied_plain_at .later [] _ _ _ _ said (fun _ h => by cases h) (by kernel_rfl) (fun _ h => by cases h) linearizeVerify_row_tie rfl ⟨rfl, rfl⟩ (by kernel_rfl) rfl plain (by kernel_rfl)
#print axioms proved
end Go.Proofs.YtmbkjccckmlacaaDoor.linearizeVerify

