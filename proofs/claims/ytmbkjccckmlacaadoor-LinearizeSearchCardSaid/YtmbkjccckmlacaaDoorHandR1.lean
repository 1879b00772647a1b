/- slices.Contains at []int; the law's closure over pairs, and slices.ContainsFunc with it. (With it: linearize: Verify.; linearize: isState, Apply.; linearize: Apply.; The reference's number, CheckModel, known, valid.; The reference's valid. Printed by mk_lnrb.py.; The reference's position and cell. Printed by mk_lnrc.py.; append of integers to an empty slice, as a run; append of a row of integers that lies anywhere.; The reference's list. Printed by mk_lnre.py.; The reference's set. Printed by mk_lnrf.py.; The reference's Apply. Printed by mk_lnrg.py.; The law's sequential histories.; LinearizeFinds: what Search returns is verified, no proper beginning of it is; if it finds nothing, no order is verified, and Count is 0.) -/
import Derived.Laws.CopyRow
import Derived.Laws.AppendOwnNone
import Derived.Deep.DeepAppendWide
import Derived.Maps.AppendAt
import Derived.Test.YtmbkjccckmlacaaDoorPart7
import Derived.Test.YtmbkjccckmlacaaDoorPart1
import Derived.Test.YtmbkjccckmlacaaDoorPart2

namespace Go.Proofs.YtmbkjccckmlacaaDoor
open Go.RowKit
set_option linter.unusedVariables false
set_option linter.unusedSimpArgs false

theorem ordE_in {nl : Nat} : ∀ (o : List Int) (s : Nat), ordE nl s o = 0 → ∀ i ∈ o, 0 ≤ i ∧ i < nl
  | [], _, _ => by simp
  | i :: t, s, h => by
    rw [ordE] at h
    split at h
    · omega
    · next h1 =>
      split at h
      · omega
      · intro x hx
        rcases List.mem_cons.1 hx with rfl | hx
        · omega
        · exact ordE_in t _ h x hx
theorem ordE_bad {nl s : Nat} {i : Int} {t : List Int} (h : i < 0 ∨ (nl : Int) ≤ i) : ordE nl s (i :: t) = 2 := by rw [ordE, if_pos h]
theorem ordE_twice {nl s q : Nat} {t : List Int} (h : q < nl) (hb : s.testBit q = true) : ordE nl s ((q : Int) :: t) = 6 := by
  rw [ordE, if_neg (by omega), Int.toNat_natCast, if_pos hb]
theorem ordE_step {nl s q : Nat} {t : List Int} (h : q < nl) (hb : s.testBit q = false) : ordE nl s ((q : Int) :: t) = ordE nl (s ||| 2 ^ q) t := by
  rw [ordE, if_neg (by omega), Int.toNat_natCast, if_neg (by simp [hb])]
theorem setO_step {s q : Nat} {t : List Int} : setO s ((q : Int) :: t) = setO (s ||| 2 ^ q) t := by simp [setO]
theorem folE_step {k z : Int} {l : List Cl} {n : Nd} {q : Nat} {t : List Int} (h : q < l.length) : folE k z l n ((q : Int) :: t) =
    if subM (bef l q) n.1 l.length = false then 9 else
      if (apM k z n.2 l[q].meth l[q].arg).2.2 ≠ 0 then (apM k z n.2 l[q].meth l[q].arg).2.2 else
      if l[q].en ≠ -1 ∧ (apM k z n.2 l[q].meth l[q].arg).2.1 ≠ l[q].res then 10 else folE k z l (n.1 ||| 2 ^ q, (apM k z n.2 l[q].meth l[q].arg).1) t := by
  rw [folE, Int.toNat_natCast, List.getElem?_eq_getElem h]
theorem or_lt {s q nl : Nat} (hs : s < 2 ^ nl) (hq : q < nl) : s ||| 2 ^ q < 2 ^ nl := Nat.or_lt_two_pow hs (Nat.pow_lt_pow_right (by omega) hq)
theorem mdCells (w : World) (k z : Int) : ∀ W, Ext (w.alloc (.cells #[.int .i64 k, .int .i64 z] 23)) W → W.cell? ⟨w.heap.size, 0, none⟩ = some (.int .i64 k) ∧ W.cell? ⟨w.heap.size, 1, none⟩ = some (.int .i64 z) := fun W hW => by
  have hb := (hW.below.block _ (lt_of_block (alloc_here w (.cells #[.int .i64 k, .int .i64 z] 23)))).trans (alloc_here w (.cells #[.int .i64 k, .int .i64 z] 23))
  exact ⟨cell_of hb rfl, cell_of hb rfl⟩
set_option maxRecDepth 100000 in
set_option maxHeartbeats 4000000 in
theorem Verify_any (k z : Int) (l : List Cl) (order : List Int) (a o : Option Addr) (c co : Nat) (w : World) (h : HsAt w a l) (hlen : l.length ≤ maxLen) (hO : IntsAt w o order) (hol : order.length ≤ 1000) :
    Gives Tryd.prog 21 #[.agg #[.int .i64 k, .int .i64 z], .slice a l.length c, .slice o order.length co] w (.int .i64 (verR k z l order)) := by
  unfold Gives
  have HX := Lib.hid (ext_allocN w (.cells #[.int .i64 k, .int .i64 z] 23))
  have HMD := Lib.hid (mdCells w k z)
  have HH := Lib.hid (fun W (hW : Ext w W) => h.ext hW)
  have HOI := Lib.hid (fun W (hW : Ext w W) => hO.ext hW)
  have HR := Lib.hid (show verR k z l order = if srE k z l ≠ 0 then srE k z l else if ordE l.length 0 order ≠ 0 then ordE l.length 0 order else if cmpl l (setO 0 order, []) = false then 7 else folE k z l (beg0 k) order from rfl)
  generalize verR k z l order = R at *
  obtain ⟨wk, hwk⟩ : ∃ W, W = w.alloc (.cells #[.int .i64 k, .int .i64 z] 23) := ⟨_, rfl⟩
  have hwk' := hwk.symm
  rw [hwk'] at HX HMD
  by_cases hb : srE k z l = 0
  · obtain ⟨hmd, hck, hl⟩ := srE_parts hb
    obtain ⟨hk1, hk6⟩ := mdE_k hmd
    have HR1 := Lib.hid (show R = if ordE l.length 0 order ≠ 0 then ordE l.length 0 order else if cmpl l (setO 0 order, []) = false then 7 else folE k z l (beg0 k) order by rw [HR.out, if_neg (by rw [hb]; simp)])
    have HN := Lib.hid (newS_ok k z l a c wk (HH.out wk HX.out) hb)
    have HEN := Lib.hid (ck_en hck)
    have HGB := Lib.hid (Gd.beg0 (z := z) l hmd)
    clear h hb hmd hck HR hwk hO
    obtain ⟨nl, hnl⟩ : ∃ n, l.length = n := ⟨_, rfl⟩
    have HNL := Lib.hid hnl
    obtain ⟨lo, hlo⟩ : ∃ n, order.length = n := ⟨_, rfl⟩
    have HLO := Lib.hid hlo
    rw [hlo] at hol ⊢
    have hl12 : nl ≤ 12 := by omega
    rw [hnl] at HN HR1 hlen ⊢
    clear hnl hlo hl
    obtain ⟨m0, m1⟩ := HMD.out wk (Below.refl _ _)
    go_enter Tryd.func21, Tryd.ntmps21
    go_wp2_with fail
    try rw [hwk']
    refine HN.out.mono ?_
    rintro e w1 ⟨A, rfl, hs, hp, hc1, hc2, hne, hm1, hm2, hE⟩
    have HS1 := Lib.hid hs
    have HE1 := Lib.hid (Ext.trans HX.out hE)
    have HX1 := Lib.hid hE
    clear hs hp hc1 hc2 hne hm1 hm2 hE m0 m1
    go_wp2_with fail
    go_loopw [9, 29] (fun sv i wr => ∃ (j s : Nat), j ≤ lo ∧ i = .int .i64 (j : Int) ∧ sv = .int .i64 (s : Int) ∧ s < 2 ^ nl ∧ ordE nl s (order.drop j) = ordE nl 0 order ∧ setO s (order.drop j) = setO 0 order ∧ Ext w1 wr) (fun _ i _ => lo - (intOf i).toNat)
    case atStart => exact ⟨0, 0, Nat.zero_le _, rfl, rfl, Nat.two_pow_pos _, rfl, rfl, Below.refl _ _⟩
    case round =>
      obtain ⟨j, s, hj, rfl, rfl, hs, hE0, hS0, hE⟩ := hrel
      have HEr := Lib.hid hE
      have HE0 := Lib.hid hE0
      have HS0 := Lib.hid hS0
      have HSL := Lib.hid hs
      clear hE hE0 hS0 hs
      by_cases hlt : j < lo
      · have hjl : j < order.length := by rw [HLO.out]; exact hlt
        have HD := Lib.hid (List.drop_eq_getElem_cons hjl)
        obtain ⟨b, off, hob, hcell⟩ := (HOI.out wr (Ext.trans HE1.out HEr.out)).at hjl
        subst hob
        have hi0 : (0 : Int) ≤ (j : Int) := by omega
        have hi1 : (j : Int) < (lo : Int) := by omega
        generalize order[j] = i at *
        by_cases hn : i < 0
        · have d1 : decide (i < 0) = true := by simpa using hn
          have HRv := Lib.hid (show R = 2 by
            have e : ordE nl 0 order = 2 := by rw [← HE0.out, HD.out, ordE_bad (Or.inl hn)]
            rw [HR1.out, if_pos (by rw [e]; simp), e])
          clear hn
          go_wp2
          go_ret
          exact ⟨by rw [HRv.out]; rfl, Ext.trans HE1.out HEr.out⟩
        · have d1 : decide (i < 0) = false := by simpa using hn
          by_cases hm : (nl : Int) ≤ i
          · have d2 : decide ((nl : Int) ≤ i) = true := by simpa using hm
            have HRv := Lib.hid (show R = 2 by
              have e : ordE nl 0 order = 2 := by rw [← HE0.out, HD.out, ordE_bad (Or.inr hm)]
              rw [HR1.out, if_pos (by rw [e]; simp), e])
            clear hn hm
            go_wp2
            go_ret
            exact ⟨by rw [HRv.out]; rfl, Ext.trans HE1.out HEr.out⟩
          · obtain ⟨q, rfl⟩ : ∃ q : Nat, i = (q : Int) := ⟨i.toNat, by omega⟩
            have d2 : decide ((nl : Int) ≤ (q : Int)) = false := by simpa using hm
            have d3 : decide (nl ≤ q) = false := by simp; omega
            have hq : q < nl := by omega
            have hsh := shl_one (i := q) (by omega)
            have hs62 := pow_le62 HSL.out hl12
            have hand := i64_and s (2 ^ q) hs62 (pow_small (by omega))
            have hor := i64_or s (2 ^ q) hs62 (pow_small (by omega))
            have HT := Lib.hid (and_pow_zero s q)
            have HOL := Lib.hid (or_lt HSL.out hq)
            have HTW := Lib.hid (fun (hb : s.testBit q = true) => show ordE nl 0 order = 6 by rw [← HE0.out, HD.out, ordE_twice hq hb])
            have HSP := Lib.hid (fun (hb : s.testBit q = false) => show ordE nl (s ||| 2 ^ q) (order.drop (j + 1)) = ordE nl 0 order by rw [← HE0.out, HD.out, ordE_step hq hb])
            have HSO := Lib.hid (show setO (s ||| 2 ^ q) (order.drop (j + 1)) = setO 0 order by rw [← HS0.out, HD.out, setO_step])
            have hq0 : (0 : Int) ≤ (q : Int) := by omega
            have hq64 : (q : Int) ≤ 64 := by omega
            generalize hTT : s &&& 2 ^ q = T at *
            generalize hOO : s ||| 2 ^ q = O at *
            generalize hP2 : 2 ^ q = P2 at *
            clear hn hm hTT hOO hP2 hq hs62
            cases hbit : s.testBit q with
            | true =>
              have g1 : ((T : Int) != 0) = true := by
                have : ¬ T = 0 := fun e => by rw [HT.out.1 e] at hbit; cases hbit
                rw [bne_iff_ne]; omega
              have HRv := Lib.hid (show R = 6 by rw [HR1.out, if_pos (by rw [HTW.out hbit]; simp), HTW.out hbit])
              clear hbit
              go_wp2
              go_ret
              exact ⟨by rw [HRv.out]; rfl, Ext.trans HE1.out HEr.out⟩
            | false =>
              have g1 : ((T : Int) != 0) = false := by rw [HT.out.2 hbit]; rfl
              have HSQ := Lib.hid (HSP.out hbit)
              clear hbit
              go_wp2
              exact ⟨⟨j + 1, O, by omega, by go_num, rfl, HOL.out, HSQ.out, HSO.out, HEr.out⟩, by simp [intOf]; omega⟩
      · have hjl : lo = j := by omega
        subst hjl
        have hz0 : ordE nl 0 order = 0 := by rw [← HE0.out, List.drop_of_length_le (by rw [HLO.out]; exact Nat.le_refl _)]; rfl
        have hs0 : setO 0 order = s := by rw [← HS0.out, List.drop_of_length_le (by rw [HLO.out]; exact Nat.le_refl _)]; rfl
        have HR2 := Lib.hid (show R = if cmpl l (s, []) = false then 7 else folE k z l (beg0 k) order by rw [HR1.out, if_neg (by rw [hz0]; simp), hs0])
        have HIN := Lib.hid (ordE_in order 0 hz0)
        obtain ⟨w2, rfl⟩ : ∃ W, W = wr := ⟨_, rfl⟩
        have HS2 := Lib.hid (HS1.out.ext HEr.out)
        have HE2 := Lib.hid (Ext.trans HE1.out HEr.out)
        have HX2 := Lib.hid (Ext.trans HX1.out HEr.out)
        have hs62 := pow_le62 HSL.out hl12
        have hmu62 := pow_le62 (by have := must_lt l; rw [HNL.out] at this; exact this) hl12
        have handn := i64_andNot (must l) s hmu62 hs62
        have HU := Lib.hid (show andN (must l) s = 0 ↔ cmpl l (s, []) = true from by
          have := andN_zero (must_lt l) (b := s)
          unfold cmpl
          exact this)
        have hb := HS2.out.box
        have HBG := Lib.hid (begin_any HS2.out)
        obtain ⟨p, c1, c2, la, lc, g⟩ := A
        dsimp only at *
        have q4 := cell_of hb (i := 4) rfl
        clear hz0 hs0 HR1 hb HE0 HS0 hs62 hmu62
        generalize andN (must l) s = U at *
        generalize must l = mu at *
        cases hc : cmpl l (s, []) with
        | false =>
          have g1 : ((U : Int) != 0) = true := by
            have : ¬ U = 0 := fun e => by rw [HU.out.1 e] at hc; cases hc
            rw [bne_iff_ne]; omega
          have HRv := Lib.hid (show R = 7 by rw [HR2.out, if_pos hc])
          clear hc
          go_wp2
          go_ret
          exact ⟨by rw [HRv.out]; rfl, HE2.out⟩
        | true =>
          have g1 : ((U : Int) != 0) = false := by rw [HU.out.2 hc]; rfl
          have HR3 := Lib.hid (show R = folE k z l (beg0 k) order by rw [HR2.out, if_neg (by rw [hc]; simp)])
          clear hc HR2 HU
          go_wp2_with fail
          refine HBG.out.mono ?_
          rintro e w3 ⟨a3, c3, rfl, h3, hc3, hE3⟩
          have H3 := Lib.hid h3
          have HE3 := Lib.hid (Ext.trans HE2.out hE3)
          have HX3 := Lib.hid (Ext.trans HX2.out hE3)
          have HE23 := Lib.hid hE3
          clear h3 hE3
          have HGB2 := Lib.hid HGB.out
          have HR4 := Lib.hid HR3.out.symm
          generalize beg0 k = n0 at *
          obtain ⟨s0, L0⟩ := n0
          dsimp only at *
          have HAL := Lib.hid (ext_allocN w3 (.cells #[.int .i64 (s0 : Int), .slice a3 L0.length c3] tNd))
          have HAH := Lib.hid (alloc_here w3 (.cells #[.int .i64 (s0 : Int), .slice a3 L0.length c3] tNd))
          have HST := Lib.hid (show ∃ (j s : Nat) (L : List Int) (a2 : Option Addr) (c2 : Nat), j ≤ lo ∧ Value.int .i64 0 = .int .i64 (j : Int) ∧ Gd k z l (s, L) ∧ folE k z l (s, L) (order.drop j) = R ∧ IntsAt (w3.alloc (.cells #[.int .i64 (s0 : Int), .slice a3 L0.length c3] tNd)) a2 L ∧ L.length ≤ c2 ∧ (L ≠ [] → ∀ x, a2 = some x → x.block ≠ w3.heap.size) ∧ (w3.alloc (.cells #[.int .i64 (s0 : Int), .slice a3 L0.length c3] tNd)).heap[w3.heap.size]? = some (.cells #[.int .i64 (s : Int), .slice a2 L.length c2] tNd (0, 0)) ∧ Ext w3 (w3.alloc (.cells #[.int .i64 (s0 : Int), .slice a3 L0.length c3] tNd)) from by
            refine ⟨0, s0, L0, a3, c3, Nat.zero_le _, rfl, HGB2.out, HR4.out, H3.out.ext HAL.out, hc3, fun hne x e => ?_, HAH.out, HAL.out⟩
            obtain ⟨b, of, e2, hcc⟩ := H3.out 0 (by cases L0 with | nil => exact absurd rfl hne | cons => simp)
            rw [e] at e2
            cases e2
            have := cell_lt hcc
            dsimp only at this
            intro h0
            dsimp only at h0
            omega)
          clear hc3
          go_wp2_with fail
          go_loopw [62] (fun i wr => ∃ (j s : Nat) (L : List Int) (a2 : Option Addr) (c2 : Nat), j ≤ lo ∧ i = .int .i64 (j : Int) ∧ Gd k z l (s, L) ∧ folE k z l (s, L) (order.drop j) = R ∧ IntsAt wr a2 L ∧ L.length ≤ c2 ∧ (L ≠ [] → ∀ x, a2 = some x → x.block ≠ w3.heap.size) ∧ wr.heap[w3.heap.size]? = some (.cells #[.int .i64 (s : Int), .slice a2 L.length c2] tNd (0, 0)) ∧ Ext w3 wr) (fun i _ => lo - (intOf i).toNat)
          case atStart => exact HST.out
          case round =>
            obtain ⟨j, s, L, a2, c2, hj, rfl, hgd, hfo, hIa, hca, hna, hbx, hEr⟩ := hrel
            have HGD := Lib.hid hgd
            have HFO := Lib.hid hfo
            have HIA := Lib.hid hIa
            have HCA := Lib.hid hca
            have HNA := Lib.hid hna
            have HBX := Lib.hid hbx
            have HER := Lib.hid hEr
            clear hgd hfo hIa hca hna hbx hEr HST HAL HAH
            by_cases hlt : j < lo
            · have hjl : j < order.length := by rw [HLO.out]; exact hlt
              have HD := Lib.hid (List.drop_eq_getElem_cons hjl)
              have hin := HIN.out _ (List.getElem_mem hjl)
              obtain ⟨b, off, hob, hcell⟩ := (HOI.out wr (Ext.trans HE3.out HER.out)).at hjl
              have hi0 : (0 : Int) ≤ (j : Int) := by omega
              have hi1 : (j : Int) < (lo : Int) := by omega
              generalize order[j] = i at *
              obtain ⟨q, rfl⟩ : ∃ q : Nat, i = (q : Int) := ⟨i.toNat, by omega⟩
              have hqn : q < nl := by omega
              have hql : q < l.length := by rw [HNL.out]; exact hqn
              have HFE := Lib.hid (show (if subM (bef l q) s l.length = false then 9 else
                if (apM k z L l[q].meth l[q].arg).2.2 ≠ 0 then (apM k z L l[q].meth l[q].arg).2.2 else
                if l[q].en ≠ -1 ∧ (apM k z L l[q].meth l[q].arg).2.1 ≠ l[q].res then 10 else folE k z l (s ||| 2 ^ q, (apM k z L l[q].meth l[q].arg).1) (order.drop (j + 1))) = R by
                rw [← HFO.out, HD.out, folE_step hql])
              have HSS := Lib.hid (show s < 2 ^ nl by have := HGD.out.lt; rw [HNL.out] at this; exact this)
              have HLS := Lib.hid (show stR k z L = true from HGD.out.st)
              have HAP := Lib.hid (fun W (hW : Ext wr W) => apply_any k z L l[q].meth l[q].arg a2 c2 W hk1 hk6 HLS.out (HIA.out.ext hW) HCA.out)
              have HAK := Lib.hid (fun (h : (apM k z L l[q].meth l[q].arg).2.2 = 0) => stR_ap (a := l[q].arg) (m := l[q].meth) hk1 hk6 HLS.out h)
              have HEQ := Lib.hid (HEN.out q hql)
              have HCL := Lib.hid (fun W (hW : Ext wr W) => (HH.out W (Ext.trans HE3.out (Ext.trans HER.out hW))) q hql)
              obtain ⟨bl, ol, hla, x0, x1, x2, x3, x4, x5⟩ := HCL.out wr (Below.refl _ _)
              subst hla hob
              have HCM := Lib.hid (fun W (hW : Ext wr W) => show Cl.cells W bl (ol + q * 6) l[q] from by
                obtain ⟨b', o', e', hc'⟩ := HCL.out W hW
                cases e'
                exact hc')
              have hbi := bfO_get (bef l) l.length q hql
              have HBI := Lib.hid (fun W (hW : Ext wr W) => show (W.cell? ⟨p, 3, none⟩ = some (.slice (some ⟨g, 0, none⟩) nl nl)) ∧ W.cell? ⟨g, q, none⟩ = some (.int .i64 ((bef l q : Nat) : Int)) ∧ (W.cell? ⟨w3.heap.size, 0, none⟩ = some (.int .i64 (s : Int)) ∧ W.cell? ⟨w3.heap.size, 1, none⟩ = some (.slice a2 L.length c2)) ∧
                (W.cell? ⟨w.heap.size, 0, none⟩ = some (.int .i64 k) ∧ W.cell? ⟨w.heap.size, 1, none⟩ = some (.int .i64 z)) from by
                have hs := HS2.out.ext (show Ext w2 W from by have h1 := Ext.trans HE23.out (Ext.trans HER.out hW); exact h1)
                have hbx := (hW.below.block _ (lt_of_block HBX.out)).trans HBX.out
                rw [← HNL.out]
                exact ⟨cell_of hs.box rfl, cell_of hs.bf hbi, ⟨cell_of hbx rfl, cell_of hbx rfl⟩, HMD.out W (Ext.trans HX3.out (Ext.trans HER.out hW))⟩)
              have hU62 := pow_le62 HSS.out hl12
              have hand := i64_andNot (bef l q) s (pow_le62 (by have := bef_lt l q; rw [HNL.out] at this; exact this) hl12) hU62
              have hor := i64_or s (2 ^ q) hU62 (pow_small (by omega))
              have hsh := shl_one (i := q) (by omega)
              have HU := Lib.hid (andN_zero (bef_lt l q) (b := s))
              have HOL := Lib.hid (or_lt HSS.out hqn)
              generalize l[q] = x at *
              obtain ⟨tk, me, ar, re, be, en⟩ := x
              unfold Cl.cells at HCM
              dsimp only at *
              have hq0 : (0 : Int) ≤ (q : Int) := by omega
              have hq1 : (q : Int) < (nl : Int) := by omega
              have hq64 : (q : Int) ≤ 64 := by omega
              obtain ⟨y3, yg, ⟨n0, n1⟩, m0, m1⟩ := HBI.out wr (Below.refl _ _)
              clear hbi hU62 hin hjl hql
              generalize hUU : andN (bef l q) s = U at *
              generalize bef l q = bf at *
              generalize hOO : s ||| 2 ^ q = O at *
              generalize hP2 : 2 ^ q = P2 at *
              clear hUU hOO hP2
              cases hsub : subM bf s l.length with
              | false =>
                have g2 : ((U : Int) != 0) = true := by
                  have : ¬ U = 0 := fun e => by rw [HU.out.1 e] at hsub; cases hsub
                  rw [bne_iff_ne]; omega
                have HRv := Lib.hid (show R = 9 by rw [← HFE.out, if_pos hsub])
                clear hsub
                go_wp2_with fail
                go_quiet (fail)
                go_wp2
                go_ret
                exact ⟨by rw [HRv.out]; rfl, Ext.drewN' (Ext.trans HE3.out HER.out)⟩
              | true =>
                have g2 : ((U : Int) != 0) = false := by rw [HU.out.2 hsub]; rfl
                have HF2 := Lib.hid (show (if (apM k z L me ar).2.2 ≠ 0 then (apM k z L me ar).2.2 else if en ≠ -1 ∧ (apM k z L me ar).2.1 ≠ re then 10 else folE k z l (O, (apM k z L me ar).1) (order.drop (j + 1))) = R by
                  have := HFE.out
                  rw [if_neg (by rw [hsub]; simp)] at this
                  exact this)
                clear hsub HFE
                generalize apM k z L me ar = Z at *
                go_wp2_with fail
                go_quiet (fail)
                generalize hwz : wr.drewN nq = wz at *
                have HEz := Lib.hid (show Ext wr wz by rw [← hwz]; exact Ext.drewN' (Below.refl _ _))
                clear hwz y3 yg n0 n1 m0 m1 x0 x1 x2 x3 x4 x5
                obtain ⟨L1, rs, er⟩ := Z
                dsimp only at *
                obtain ⟨y3, yg, ⟨n0, n1⟩, m0, m1⟩ := HBI.out wz HEz.out
                obtain ⟨x0, x1, x2, x3, x4, x5⟩ := HCM.out wz HEz.out
                go_wp2_with fail
                refine wp_region_tail (l1 := [_, _, _, _, _, _, _, _, _, _, _, _, _, _, _, _, _, _, _, _]) (l2 := [_]) (by kernel_rfl) Ext (fun W => Below.refl _ W) (fun W => show Below W.heap.size W { W with drawn := W.drawn + 1 } from ⟨rfl, rfl, rfl, Nat.le_refl _, fun _ _ => rfl⟩) Ext.trans
                  (fun i s W => match i with
                    | 0 => s 0 = .agg #[.int .i64 k, .int .i64 z]
                    | 1 => s 1 = .pointer (some ⟨w3.heap.size, 1, none⟩)
                    | 2 => s 2 = .slice a2 L.length c2
                    | 3 => s 3 = .slice (some ⟨bl, ol, none⟩) nl c
                    | 4 => s 4 = .int .i64 (q : Int)
                    | 5 => s 5 = .pointer (some ⟨bl, ol + q * 6, none⟩)
                    | 6 => s 6 = .pointer (some ⟨bl, ol + q * 6 + 1, none⟩)
                    | 7 => s 7 = .int .i64 me
                    | 8 => s 8 = .slice (some ⟨bl, ol, none⟩) nl c
                    | 9 => s 9 = .int .i64 (q : Int)
                    | 10 => s 10 = .pointer (some ⟨bl, ol + q * 6, none⟩)
                    | 11 => s 11 = .pointer (some ⟨bl, ol + q * 6 + 2, none⟩)
                    | 12 => s 12 = .int .i64 ar
                    | 13 => ∃ a1 cc1, s 13 = .tuple #[.slice a1 L1.length cc1, .int .i64 rs, .int .i64 er] ∧ IntsAt W a1 L1 ∧ L1.length ≤ cc1 ∧ Frm wz a2 L a1 L1
                    | 14 => ∃ a1 cc1, s 14 = .tuple #[.slice a1 L1.length cc1, .int .i64 rs, .int .i64 er] ∧ IntsAt W a1 L1 ∧ L1.length ≤ cc1 ∧ Frm wz a2 L a1 L1
                    | 15 => ∃ a1 cc1, s 15 = .slice a1 L1.length cc1 ∧ IntsAt W a1 L1 ∧ L1.length ≤ cc1 ∧ Frm wz a2 L a1 L1
                    | 16 => s 16 = .int .i64 rs
                    | 17 => s 17 = .int .i64 er
                    | 18 => ∃ a1 cc1, s 18 = .slice a1 L1.length cc1 ∧ IntsAt W a1 L1 ∧ L1.length ≤ cc1 ∧ Frm wz a2 L a1 L1
                    | 19 => s 19 = .int .i64 rs
                    | _ => True)
                  (fun i => [i])
                  (by
                    intro i s s' W W' h hs hE
                    have hs := hs i (by simp)
                    match i, h, hs with
                    | 0, h, hs => exact hs.trans h
                    | 1, h, hs => exact hs.trans h
                    | 2, h, hs => exact hs.trans h
                    | 3, h, hs => exact hs.trans h
                    | 4, h, hs => exact hs.trans h
                    | 5, h, hs => exact hs.trans h
                    | 6, h, hs => exact hs.trans h
                    | 7, h, hs => exact hs.trans h
                    | 8, h, hs => exact hs.trans h
                    | 9, h, hs => exact hs.trans h
                    | 10, h, hs => exact hs.trans h
                    | 11, h, hs => exact hs.trans h
                    | 12, h, hs => exact hs.trans h
                    | 13, ⟨a1, cc1, h, h1, h2, h3⟩, hs => exact ⟨a1, cc1, hs.trans h, h1.ext hE, h2, h3⟩
                    | 14, ⟨a1, cc1, h, h1, h2, h3⟩, hs => exact ⟨a1, cc1, hs.trans h, h1.ext hE, h2, h3⟩
                    | 15, ⟨a1, cc1, h, h1, h2, h3⟩, hs => exact ⟨a1, cc1, hs.trans h, h1.ext hE, h2, h3⟩
                    | 16, h, hs => exact hs.trans h
                    | 17, h, hs => exact hs.trans h
                    | 18, ⟨a1, cc1, h, h1, h2, h3⟩, hs => exact ⟨a1, cc1, hs.trans h, h1.ext hE, h2, h3⟩
                    | 19, h, hs => exact hs.trans h
                    | i + 20, h, hs => exact trivial)
                  (by kernel_rfl) (by kernel_rfl) (by kernel_rfl) 121 rfl (by kernel_rfl) (by kernel_rfl) ?_ ?_
                · intro i op ho a' W hA
                  obtain ⟨y3, yg, ⟨n0, n1⟩, m0, m1⟩ := HBI.out W (Ext.trans HEz.out hA.rel)
                  obtain ⟨x0, x1, x2, x3, x4, x5⟩ := HCM.out W (Ext.trans HEz.out hA.rel)
                  match i, ho with
                  | 0, ho =>
                    obtain rfl := Option.some.inj ho
                    have e1 : a'.eval (.tmp 3) = .pointer (some ⟨w.heap.size, 0, none⟩) := hA.keep 3 (by kernel_rfl)
                    refine GoesG.value (.agg #[.int .i64 k, .int .i64 z]) rfl ?_ (Below.refl _ _) (fun s h1 h2 => h1 rfl)
                    simp only [execOp, e1]
                    simp [go_sem, m0, m1, n1, x1, x2, hq0, hq1]
                  | 1, ho =>
                    obtain rfl := Option.some.inj ho
                    have e1 : a'.eval (.tmp 12) = .pointer (some ⟨w3.heap.size, 0, none⟩) := hA.keep 12 (by kernel_rfl)
                    refine GoesG.value (.pointer (some ⟨w3.heap.size, 1, none⟩)) rfl ?_ (Below.refl _ _) (fun s h1 h2 => h1 rfl)
                    simp only [execOp, e1]
                    simp [go_sem, m0, m1, n1, x1, x2, hq0, hq1]
                  | 2, ho =>
                    obtain rfl := Option.some.inj ho
                    have e1 : a'.eval (.tmp 79) = .pointer (some ⟨w3.heap.size, 1, none⟩) := (sv_dst (l := _) rfl).symm.trans (hA.new 1 (by decide) (by kernel_rfl))
                    refine GoesG.value (.slice a2 L.length c2) rfl ?_ (Below.refl _ _) (fun s h1 h2 => h1 rfl)
                    simp only [execOp, e1]
                    simp [go_sem, m0, m1, n1, x1, x2, hq0, hq1]
                  | 3, ho =>
                    obtain rfl := Option.some.inj ho
                    have e1 : a'.eval (.tmp 1) = .slice (some ⟨bl, ol, none⟩) nl c := hA.keep 1 (by kernel_rfl)
                    refine GoesG.value (.slice (some ⟨bl, ol, none⟩) nl c) rfl ?_ (Below.refl _ _) (fun s h1 h2 => h1 rfl)
                    simp only [execOp, e1]
                    simp [go_sem, m0, m1, n1, x1, x2, hq0, hq1]
                  | 4, ho =>
                    obtain rfl := Option.some.inj ho
                    have e1 : a'.eval (.tmp 14) = .int .i64 (q : Int) := hA.keep 14 (by kernel_rfl)
                    refine GoesG.value (.int .i64 (q : Int)) rfl ?_ (Below.refl _ _) (fun s h1 h2 => h1 rfl)
                    simp only [execOp, e1]
                    simp [go_sem, m0, m1, n1, x1, x2, hq0, hq1]
                  | 5, ho =>
                    obtain rfl := Option.some.inj ho
                    have e1 : a'.eval (.tmp 81) = .slice (some ⟨bl, ol, none⟩) nl c := (sv_dst (l := _) rfl).symm.trans (hA.new 3 (by decide) (by kernel_rfl))
                    have e2 : a'.eval (.tmp 82) = .int .i64 (q : Int) := (sv_dst (l := _) rfl).symm.trans (hA.new 4 (by decide) (by kernel_rfl))
                    refine GoesG.value (.pointer (some ⟨bl, ol + q * 6, none⟩)) rfl ?_ (Below.refl _ _) (fun s h1 h2 => h1 rfl)
                    simp only [execOp, e1, e2]
                    simp [go_sem, m0, m1, n1, x1, x2, hq0, hq1]
                  | 6, ho =>
                    obtain rfl := Option.some.inj ho
                    have e1 : a'.eval (.tmp 83) = .pointer (some ⟨bl, ol + q * 6, none⟩) := (sv_dst (l := _) rfl).symm.trans (hA.new 5 (by decide) (by kernel_rfl))
                    refine GoesG.value (.pointer (some ⟨bl, ol + q * 6 + 1, none⟩)) rfl ?_ (Below.refl _ _) (fun s h1 h2 => h1 rfl)
                    simp only [execOp, e1]
                    simp [go_sem, m0, m1, n1, x1, x2, hq0, hq1]
                  | 7, ho =>
                    obtain rfl := Option.some.inj ho
                    have e1 : a'.eval (.tmp 84) = .pointer (some ⟨bl, ol + q * 6 + 1, none⟩) := (sv_dst (l := _) rfl).symm.trans (hA.new 6 (by decide) (by kernel_rfl))
                    refine GoesG.value (.int .i64 me) rfl ?_ (Below.refl _ _) (fun s h1 h2 => h1 rfl)
                    simp only [execOp, e1]
                    simp [go_sem, m0, m1, n1, x1, x2, hq0, hq1]
                  | 8, ho =>
                    obtain rfl := Option.some.inj ho
                    have e1 : a'.eval (.tmp 1) = .slice (some ⟨bl, ol, none⟩) nl c := hA.keep 1 (by kernel_rfl)
                    refine GoesG.value (.slice (some ⟨bl, ol, none⟩) nl c) rfl ?_ (Below.refl _ _) (fun s h1 h2 => h1 rfl)
                    simp only [execOp, e1]
                    simp [go_sem, m0, m1, n1, x1, x2, hq0, hq1]
                  | 9, ho =>
                    obtain rfl := Option.some.inj ho
                    have e1 : a'.eval (.tmp 14) = .int .i64 (q : Int) := hA.keep 14 (by kernel_rfl)
                    refine GoesG.value (.int .i64 (q : Int)) rfl ?_ (Below.refl _ _) (fun s h1 h2 => h1 rfl)
                    simp only [execOp, e1]
                    simp [go_sem, m0, m1, n1, x1, x2, hq0, hq1]
                  | 10, ho =>
                    obtain rfl := Option.some.inj ho
                    have e1 : a'.eval (.tmp 86) = .slice (some ⟨bl, ol, none⟩) nl c := (sv_dst (l := _) rfl).symm.trans (hA.new 8 (by decide) (by kernel_rfl))
                    have e2 : a'.eval (.tmp 87) = .int .i64 (q : Int) := (sv_dst (l := _) rfl).symm.trans (hA.new 9 (by decide) (by kernel_rfl))
                    refine GoesG.value (.pointer (some ⟨bl, ol + q * 6, none⟩)) rfl ?_ (Below.refl _ _) (fun s h1 h2 => h1 rfl)
                    simp only [execOp, e1, e2]
                    simp [go_sem, m0, m1, n1, x1, x2, hq0, hq1]
                  | 11, ho =>
                    obtain rfl := Option.some.inj ho
                    have e1 : a'.eval (.tmp 88) = .pointer (some ⟨bl, ol + q * 6, none⟩) := (sv_dst (l := _) rfl).symm.trans (hA.new 10 (by decide) (by kernel_rfl))
                    refine GoesG.value (.pointer (some ⟨bl, ol + q * 6 + 2, none⟩)) rfl ?_ (Below.refl _ _) (fun s h1 h2 => h1 rfl)
                    simp only [execOp, e1]
                    simp [go_sem, m0, m1, n1, x1, x2, hq0, hq1]
                  | 12, ho =>
                    obtain rfl := Option.some.inj ho
                    have e1 : a'.eval (.tmp 89) = .pointer (some ⟨bl, ol + q * 6 + 2, none⟩) := (sv_dst (l := _) rfl).symm.trans (hA.new 11 (by decide) (by kernel_rfl))
                    refine GoesG.value (.int .i64 ar) rfl ?_ (Below.refl _ _) (fun s h1 h2 => h1 rfl)
                    simp only [execOp, e1]
                    simp [go_sem, m0, m1, n1, x1, x2, hq0, hq1]
                  | 13, ho =>
                    obtain rfl := Option.some.inj ho
                    have e1 : a'.eval (.tmp 78) = .agg #[.int .i64 k, .int .i64 z] := (sv_dst (l := _) rfl).symm.trans (hA.new 0 (by decide) (by kernel_rfl))
                    have e2 : a'.eval (.tmp 80) = .slice a2 L.length c2 := (sv_dst (l := _) rfl).symm.trans (hA.new 2 (by decide) (by kernel_rfl))
                    have e3 : a'.eval (.tmp 85) = .int .i64 me := (sv_dst (l := _) rfl).symm.trans (hA.new 7 (by decide) (by kernel_rfl))
                    have e4 : a'.eval (.tmp 90) = .int .i64 ar := (sv_dst (l := _) rfl).symm.trans (hA.new 12 (by decide) (by kernel_rfl))
                    refine GoesG.call 45 #[.agg #[.int .i64 k, .int .i64 z], .slice a2 L.length c2, .int .i64 me, .int .i64 ar] rfl ?_ ?_
                    · have en := enters_fn Tryd.func45 (by kernel_rfl) rfl
                      simp [Act.eval] at e1 e2 e3 e4
                      simp [execOp, go_sem, e1, e2, e3, e4, en]
                    · refine (HAP.out W (Ext.trans HEz.out hA.rel)).mono ?_
                      rintro e W2 ⟨a1, cc1, rfl, h1, h2, h3, h4⟩
                      exact ⟨_, rfl, h3, fun s g1 g2 => ⟨a1, cc1, g1 rfl, h1, h2, h4.up hA.rel⟩⟩
                  | 14, ho =>
                    obtain rfl := Option.some.inj ho
                    obtain ⟨a1, cc1, e0, h1, h2, h3⟩ := hA.new 13 (by decide) (by kernel_rfl)
                    have e1 : a'.eval (.tmp 91) = .tuple #[.slice a1 L1.length cc1, .int .i64 rs, .int .i64 er] := (sv_dst (l := _) rfl).symm.trans e0
                    refine GoesG.value (.tuple #[.slice a1 L1.length cc1, .int .i64 rs, .int .i64 er]) rfl ?_ (Below.refl _ _) (fun s g1 g2 => ⟨a1, cc1, g1 rfl, h1, h2, h3⟩)
                    simp only [execOp, e1]
                    simp [go_sem]
                  | 15, ho =>
                    obtain rfl := Option.some.inj ho
                    obtain ⟨a1, cc1, e0, h1, h2, h3⟩ := hA.new 14 (by decide) (by kernel_rfl)
                    have e1 : a'.eval (.tmp 77) = .tuple #[.slice a1 L1.length cc1, .int .i64 rs, .int .i64 er] := (sv_dst (l := _) rfl).symm.trans e0
                    refine GoesG.value (.slice a1 L1.length cc1) rfl ?_ (Below.refl _ _) (fun s g1 g2 => ⟨a1, cc1, g1 rfl, h1, h2, h3⟩)
                    simp only [execOp, e1]
                    simp [go_sem]
                  | 16, ho =>
                    obtain rfl := Option.some.inj ho
                    obtain ⟨a1, cc1, e0, h1, h2, h3⟩ := hA.new 14 (by decide) (by kernel_rfl)
                    have e1 : a'.eval (.tmp 77) = .tuple #[.slice a1 L1.length cc1, .int .i64 rs, .int .i64 er] := (sv_dst (l := _) rfl).symm.trans e0
                    refine GoesG.value (.int .i64 rs) rfl ?_ (Below.refl _ _) (fun s g1 g2 => g1 rfl)
                    simp only [execOp, e1]
                    simp [go_sem]
                  | 17, ho =>
                    obtain rfl := Option.some.inj ho
                    obtain ⟨a1, cc1, e0, h1, h2, h3⟩ := hA.new 14 (by decide) (by kernel_rfl)
                    have e1 : a'.eval (.tmp 77) = .tuple #[.slice a1 L1.length cc1, .int .i64 rs, .int .i64 er] := (sv_dst (l := _) rfl).symm.trans e0
                    refine GoesG.value (.int .i64 er) rfl ?_ (Below.refl _ _) (fun s g1 g2 => g1 rfl)
                    simp only [execOp, e1]
                    simp [go_sem]
                  | 18, ho =>
                    obtain rfl := Option.some.inj ho
                    obtain ⟨a1, cc1, e0, h1, h2, h3⟩ := hA.new 15 (by decide) (by kernel_rfl)
                    have e1 : a'.eval (.tmp 92) = .slice a1 L1.length cc1 := (sv_dst (l := _) rfl).symm.trans e0
                    refine GoesG.value (.slice a1 L1.length cc1) rfl ?_ (Below.refl _ _) (fun s g1 g2 => ⟨a1, cc1, g1 rfl, h1, h2, h3⟩)
                    simp only [execOp, e1]
                    simp [go_sem]
                  | 19, ho =>
                    obtain rfl := Option.some.inj ho
                    have e1 : a'.eval (.tmp 93) = .int .i64 rs := (sv_dst (l := _) rfl).symm.trans (hA.new 16 (by decide) (by kernel_rfl))
                    refine GoesG.value (.int .i64 rs) rfl ?_ (Below.refl _ _) (fun s h1 h2 => h1 rfl)
                    simp only [execOp, e1]
                    simp [go_sem, m0, m1, n1, x1, x2, hq0, hq1]
                  | i + 20, ho => cases ho
                · intro vs w4 hvs hG hΦ
                  obtain ⟨y0, y1, y2, y3, y4, y5, y6, y7, y8, y9, y10, y11, y12, y13, y14, y15, y16, y17, y18, y19, rfl⟩ : ∃ y0 y1 y2 y3 y4 y5 y6 y7 y8 y9 y10 y11 y12 y13 y14 y15 y16 y17 y18 y19, vs = y0 :: y1 :: y2 :: y3 :: y4 :: y5 :: y6 :: y7 :: y8 :: y9 :: y10 :: y11 :: y12 :: y13 :: y14 :: y15 :: y16 :: y17 :: y18 :: y19 :: [] := by
                    match vs, hvs with
                    | y0 :: y1 :: y2 :: y3 :: y4 :: y5 :: y6 :: y7 :: y8 :: y9 :: y10 :: y11 :: y12 :: y13 :: y14 :: y15 :: y16 :: y17 :: y18 :: y19 :: [], _ => exact ⟨y0, y1, y2, y3, y4, y5, y6, y7, y8, y9, y10, y11, y12, y13, y14, y15, y16, y17, y18, y19, rfl⟩
                  have e0 : y0 = .agg #[.int .i64 k, .int .i64 z] := hΦ 0 (by decide)
                  subst e0
                  have e1 : y1 = .pointer (some ⟨w3.heap.size, 1, none⟩) := hΦ 1 (by decide)
                  subst e1
                  have e2 : y2 = .slice a2 L.length c2 := hΦ 2 (by decide)
                  subst e2
                  have e3 : y3 = .slice (some ⟨bl, ol, none⟩) nl c := hΦ 3 (by decide)
                  subst e3
                  have e4 : y4 = .int .i64 (q : Int) := hΦ 4 (by decide)
                  subst e4
                  have e5 : y5 = .pointer (some ⟨bl, ol + q * 6, none⟩) := hΦ 5 (by decide)
                  subst e5
                  have e6 : y6 = .pointer (some ⟨bl, ol + q * 6 + 1, none⟩) := hΦ 6 (by decide)
                  subst e6
                  have e7 : y7 = .int .i64 me := hΦ 7 (by decide)
                  subst e7
                  have e8 : y8 = .slice (some ⟨bl, ol, none⟩) nl c := hΦ 8 (by decide)
                  subst e8
                  have e9 : y9 = .int .i64 (q : Int) := hΦ 9 (by decide)
                  subst e9
                  have e10 : y10 = .pointer (some ⟨bl, ol + q * 6, none⟩) := hΦ 10 (by decide)
                  subst e10
                  have e11 : y11 = .pointer (some ⟨bl, ol + q * 6 + 2, none⟩) := hΦ 11 (by decide)
                  subst e11
                  have e12 : y12 = .int .i64 ar := hΦ 12 (by decide)
                  subst e12
                  have p13 : ∃ a1 cc1, y13 = .tuple #[.slice a1 L1.length cc1, .int .i64 rs, .int .i64 er] ∧ IntsAt w4 a1 L1 ∧ L1.length ≤ cc1 ∧ Frm wz a2 L a1 L1 := hΦ 13 (by decide)
                  have p14 : ∃ a1 cc1, y14 = .tuple #[.slice a1 L1.length cc1, .int .i64 rs, .int .i64 er] ∧ IntsAt w4 a1 L1 ∧ L1.length ≤ cc1 ∧ Frm wz a2 L a1 L1 := hΦ 14 (by decide)
                  have p15 : ∃ a1 cc1, y15 = .slice a1 L1.length cc1 ∧ IntsAt w4 a1 L1 ∧ L1.length ≤ cc1 ∧ Frm wz a2 L a1 L1 := hΦ 15 (by decide)
                  have e16 : y16 = .int .i64 rs := hΦ 16 (by decide)
                  subst e16
                  have e17 : y17 = .int .i64 er := hΦ 17 (by decide)
                  subst e17
                  have p18 : ∃ a1 cc1, y18 = .slice a1 L1.length cc1 ∧ IntsAt w4 a1 L1 ∧ L1.length ≤ cc1 ∧ Frm wz a2 L a1 L1 := hΦ 18 (by decide)
                  have e19 : y19 = .int .i64 rs := hΦ 19 (by decide)
                  subst e19
                  clear hΦ hvs
                  simp only [putAll, Act.put, List.setIfInBounds_toArray, List.set_cons_succ, List.set_cons_zero]
                  obtain ⟨a5, c5, h15, hI5, hc5, hF5⟩ := p18
                  subst h15
                  obtain ⟨w5, rfl⟩ : ∃ W, W = w4 := ⟨_, rfl⟩
                  have HI5 := Lib.hid hI5
                  have HE5 := Lib.hid (Ext.trans HEz.out (show Ext wz w5 from hG))
                  have HF5 := Lib.hid hF5
                  have HC5 := Lib.hid hc5
                  clear hI5 hc5 hF5 p13 p14 p15 hG y3 yg n0 n1 m0 m1 x0 x1 x2 x3 x4 x5
                  have HEw := Lib.hid (Ext.trans HE3.out (Ext.trans HER.out HE5.out))
                  obtain ⟨x0, x1, x2, x3, x4, x5⟩ := HCM.out w5 HE5.out
                  by_cases her : er = 0
                  · subst her
                    have HF3 := Lib.hid (show (if en ≠ -1 ∧ rs ≠ re then 10 else folE k z l (O, L1) (order.drop (j + 1))) = R from by
                      have := HF2.out
                      rw [if_neg (by simp)] at this
                      exact this)
                    by_cases hbad : en ≠ -1 ∧ rs ≠ re
                    · have HRv := Lib.hid (show R = 10 by rw [← HF3.out, if_pos hbad])
                      have g4 : decide (0 ≤ en) = true := by simp; have := HEQ.out; omega
                      have g5 : (rs != re) = true := by rw [bne_iff_ne]; exact hbad.2
                      clear hbad
                      go_wp2
                      go_ret
                      exact ⟨by rw [HRv.out]; rfl, HEw.out⟩
                    · have HFN := Lib.hid (show folE k z l (O, L1) (order.drop (j + 1)) = R from by
                        have := HF3.out
                        rw [if_neg hbad] at this
                        exact this)
                      have hcase : (decide (0 ≤ en) = false) ∨ (decide (0 ≤ en) = true ∧ (rs != re) = false) := by
                        by_cases h0 : 0 ≤ en
                        · right
                          refine ⟨by simpa using h0, ?_⟩
                          by_cases h1 : rs = re
                          · simpa using h1
                          · exact absurd ⟨by omega, h1⟩ hbad
                        · left; simpa using h0
                      have HBX5 := Lib.hid ((HE5.out.below.block _ (lt_of_block HBX.out)).trans HBX.out)
                      have z0 : w5.cell? ⟨w3.heap.size, 0, none⟩ = some (.int .i64 (s : Int)) := cell_of HBX5.out rfl
                      have z1 : w5.cell? ⟨w3.heap.size, 1, none⟩ = some (.slice a2 L.length c2) := cell_of HBX5.out rfl
                      have f0 := free_of (i := 0) HBX5.out
                      have f1 := free_of (i := 1) HBX5.out
                      clear hbad
                      rcases hcase with g4 | ⟨g4, g5⟩
                      all_goals
                        go_wp2_with fail
                        go_still_tail 7, (by kernel_rfl)
                        go_wp2
                        obtain ⟨W', hW', h4, h5, h6⟩ := put2 HBX5.out rfl (.int .i64 (O : Int)) (.slice a5 L1.length c5)
                        rw [hW']
                        have hnew : L1 ≠ [] → ∀ x, a5 = some x → x.block ≠ w3.heap.size := fun hne x e => by
                          rcases HF5.out with h | ⟨h, h'⟩
                          · have h1 := h x e; have h2 := HEz.out.size; have h3 := lt_of_block HBX.out; omega
                          · rw [h'] at hne; exact HNA.out hne x (h ▸ e)
                        exact ⟨⟨j + 1, O, L1, a5, c5, by omega, by go_num, ⟨by rw [HNL.out]; exact HOL.out, HAK.out trivial⟩, HFN.out, (by
                          cases L1 with
                          | nil => exact IntsAt.nil
                          | cons y t => exact HI5.out.turn HBX5.out (fun j _ hj => h6 j hj) (fun x e => hnew (by simp) x e)), HC5.out, hnew, h4, (Below.trans (Ext.trans HER.out HE5.out) (h5 _ (Nat.le_refl _))).drew⟩, by simp [intOf]; omega⟩
                  · have HRv := Lib.hid (show R = er by rw [← HF2.out, if_pos her])
                    have g3 : (er != 0) = true := by rw [bne_iff_ne]; exact her
                    clear her
                    go_wp2
                    go_ret
                    exact ⟨by rw [HRv.out]; rfl, HEw.out⟩
            · have hjl : lo = j := by omega
              subst hjl
              have HRv := Lib.hid (show R = 0 by rw [← HFO.out, List.drop_of_length_le (by rw [HLO.out]; exact Nat.le_refl _)]; rfl)
              go_wp2
              go_ret
              exact ⟨by rw [HRv.out]; rfl, Ext.trans HE3.out HER.out⟩
  · have HN := Lib.hid (newS_bad k z l a c wk (HH.out wk HX.out) hlen hb)
    have HRv := Lib.hid (show R = srE k z l by rw [HR.out, if_pos hb])
    have g1 : (srE k z l != 0) = true := by rw [bne_iff_ne]; exact hb
    generalize srE k z l = E at *
    unfold maxLen at hlen
    clear h hb HR hwk hO HOI
    generalize order.length = lo at *
    obtain ⟨m0, m1⟩ := HMD.out wk (Below.refl _ _)
    go_enter Tryd.func21, Tryd.ntmps21
    go_wp2_with fail
    try rw [hwk']
    refine HN.out.mono ?_
    intro w1 hE
    have HE1 := Lib.hid (Ext.trans HX.out hE)
    clear hE m0 m1
    go_wp2
    go_ret
    exact ⟨by rw [HRv.out]; rfl, HE1.out⟩
end Go.Proofs.YtmbkjccckmlacaaDoor

namespace Go.Proofs.YtmbkjccckmlacaaDoor
open Go.RowKit
set_option linter.unusedVariables false
set_option linter.unusedSimpArgs false

theorem isState1_any (x : Int) (w : World) : Gives Tryd.prog 73 #[.int .i64 x] w (.bool (!inM x)) := by
  unfold Gives
  have C := inRange_any x w
  generalize inM x = b at *
  go_enter Tryd.func73, Tryd.ntmps73
  go_wp2_with fail
  refine C.mono ?_
  intro w2 hB2
  go_wp2
  go_ret
  exact ⟨rfl, hB2⟩
set_option maxHeartbeats 1000000 in
theorem indexOut_any (l : List Int) (a : Option Addr) (cap : Nat) (w : World) (hl : l.length ≤ maxLen) (h : IntsAt w a l) :
    Calls Tryd.prog 89 #[.slice a l.length cap, .func (.func 73) #[] #[]] w fun e w' => (∃ r : Int, e = .returned (.int .i64 r) ∧ decide (0 ≤ r) = !l.all inM) ∧ Below w.heap.size w w' := by
  unfold maxLen at hl
  go_enter Tryd.func89, Tryd.ntmps89
  go_wp2
  go_loopw [8] (fun i wr => ∃ j : Nat, j ≤ l.length ∧ i = .int .i64 j ∧ (l.take j).all inM = true ∧ Below w.heap.size w wr) (fun i _ => l.length - (intOf i).toNat)
  case atStart => exact ⟨0, Nat.zero_le _, rfl, by simp, Below.refl _ _⟩
  case round =>
    obtain ⟨j, hj, rfl, hA, hB⟩ := hrel
    by_cases hlt : j < l.length
    · obtain ⟨b, off, rfl, hc⟩ := (h.below hB).at hlt
      have hs : l.take (j + 1) = l.take j ++ [l[j]] := List.take_succ_eq_append_getElem hlt
      have HN := Lib.hid (show l[j] ∈ l from List.getElem_mem hlt)
      have HS := Lib.hid (show (l.take (j + 1)).all inM = (inM l[j]) by rw [hs, List.all_append, hA]; simp)
      clear hs
      generalize l[j] = x at *
      have C := isState1_any x
      cases hq : inM x with
      | false =>
        rw [hq] at C
        have HV := Lib.hid (show l.all inM = false from by
          cases h : l.all inM with
          | false => rfl
          | true => have := List.all_eq_true.1 h x HN.out; rw [hq] at this; cases this)
        go_wp2_with fail
        refine (C _).mono ?_
        intro w2 hB2
        go_wp2
        go_ret
        exact ⟨⟨_, rfl, by rw [HV.out]; simp⟩, hB.trans (hB2.mono hB.size)⟩
      | true =>
        rw [hq] at C
        go_wp2_with fail
        refine (C _).mono ?_
        intro w2 hB2
        go_wp2
        go_roundw
        case rel => exact ⟨j + 1, by omega, by go_num, by rw [HS.out, hq], hB.trans (hB2.mono hB.size)⟩
        case measure => simp [intOf]; omega
    · have hk : l.take j = l := List.take_of_length_le (by omega)
      rw [hk] at hA
      have HA := Lib.hid hA
      clear hA
      go_wp2
      go_ret
      exact ⟨⟨_, rfl, by rw [HA.out]; simp⟩, hB⟩
theorem containsOut_any (l : List Int) (a : Option Addr) (cap : Nat) (w : World) (hl : l.length ≤ maxLen) (h : IntsAt w a l) :
    Gives Tryd.prog 72 #[.slice a l.length cap, .func (.func 73) #[] #[]] w (.bool (!l.all inM)) := by
  unfold Gives
  have C := Lib.hid (indexOut_any l a cap w hl h)
  generalize (!l.all inM) = b at *
  generalize l.length = n at *
  clear h
  go_enter Tryd.func72, Tryd.ntmps72
  go_wp2_with fail
  refine C.out.mono ?_
  rintro e w2 ⟨⟨r, rfl, hr⟩, hB2⟩
  go_wp2
  go_ret
  exact ⟨rfl, hB2⟩
theorem ascL_adj : ∀ {l : List Int}, ascL l = true ↔ ∀ i (h : i + 1 < l.length), l[i] < l[i + 1]
  | [] => by simp [ascL]
  | [x] => by simp [ascL]
  | x :: y :: t => by
    rw [ascL, Bool.and_eq_true, decide_eq_true_eq, ascL_adj]
    constructor
    · rintro ⟨h1, h2⟩ i h
      cases i with
      | zero => exact h1
      | succ i => exact h2 i (by simpa using h)
    · intro h
      exact ⟨h 0 (by simp), fun i hi => h (i + 1) (by simpa using hi)⟩
set_option maxRecDepth 100000 in
set_option maxHeartbeats 4000000 in
theorem isState_any (k z : Int) (l : List Int) (a : Option Addr) (c : Nat) (w : World) (hk1 : 1 ≤ k) (hk6 : k ≤ 6) (hl : l.length ≤ maxLen) (hA : IntsAt w a l) :
    Gives Tryd.prog 49 #[.agg #[.int .i64 k, .int .i64 z], .slice a l.length c] w (.bool (stR k z l)) := by
  unfold Gives
  have HX := Lib.hid (ext_allocN w (.cells #[.int .i64 k, .int .i64 z] 23))
  have HMD := Lib.hid (mdCells w k z)
  have HAA := Lib.hid (fun W (hW : Ext w W) => hA.ext hW)
  have KC := Lib.hid (fun W (hW : Ext w W) => containsOut_any l a c W hl (hA.ext hW))
  have HR := Lib.hid (show stR k z l = (l.all inM && (if k = 1 ∨ k = 2 then decide (l.length = 1) else if k = 6 then decide (l = [0] ∨ l = [1]) else decide (l.length ≤ 100 ∧ (z ≤ 0 ∨ (l.length : Int) ≤ z)) && (decide (k ≠ 5) || ascL l))) from rfl)
  generalize stR k z l = R at *
  obtain ⟨len, hlen⟩ : ∃ n, l.length = n := ⟨_, rfl⟩
  rw [hlen] at KC HR hl ⊢
  have HL := Lib.hid hlen
  unfold maxLen at hl
  clear hlen hA
  cases hall : l.all inM with
  | false =>
    rw [hall] at KC
    have HRv := Lib.hid (show R = false by rw [HR.out, hall]; rfl)
    clear HR hall
    go_enter Tryd.func49, Tryd.ntmps49
    go_wp2_with fail
    refine (KC.out _ HX.out).mono ?_
    intro w2 hE2
    have HE2 := Lib.hid (Ext.trans HX.out hE2)
    clear hE2
    go_wp2
    go_ret
    exact ⟨by rw [HRv.out]; rfl, HE2.out⟩
  | true =>
    rw [hall] at KC
    have HR1 := Lib.hid (show R = (if k = 1 ∨ k = 2 then decide (len = 1) else if k = 6 then decide (l = [0] ∨ l = [1]) else decide (len ≤ 100 ∧ (z ≤ 0 ∨ (len : Int) ≤ z)) && (decide (k ≠ 5) || ascL l)) by rw [HR.out, hall]; rfl)
    clear HR hall
    have hkk : k = 1 ∨ k = 2 ∨ k = 6 ∨ k = 3 ∨ k = 4 ∨ k = 5 := by omega
    clear hk1 hk6
    rcases hkk with rfl | rfl | rfl | hk
    · have HRv := Lib.hid (show R = decide (len = 1) by rw [HR1.out]; rfl)
      clear HR1
      have g1 : ((len : Int) == 1) = decide (len = 1) := by rw [Bool.eq_iff_iff]; simp; omega
      generalize decide (len = 1) = b at *
      go_enter Tryd.func49, Tryd.ntmps49
      go_wp2_with fail
      refine (KC.out _ HX.out).mono ?_
      intro w2 hE2
      obtain ⟨m0, m1⟩ := HMD.out w2 hE2
      have HE2 := Lib.hid (Ext.trans HX.out hE2)
      clear hE2
      go_wp2
      go_ret
      exact ⟨by rw [HRv.out]; rfl, HE2.out⟩
    · have HRv := Lib.hid (show R = decide (len = 1) by rw [HR1.out]; rfl)
      clear HR1
      have g1 : ((len : Int) == 1) = decide (len = 1) := by rw [Bool.eq_iff_iff]; simp; omega
      generalize decide (len = 1) = b at *
      go_enter Tryd.func49, Tryd.ntmps49
      go_wp2_with fail
      refine (KC.out _ HX.out).mono ?_
      intro w2 hE2
      obtain ⟨m0, m1⟩ := HMD.out w2 hE2
      have HE2 := Lib.hid (Ext.trans HX.out hE2)
      clear hE2
      go_wp2
      go_ret
      exact ⟨by rw [HRv.out]; rfl, HE2.out⟩
    · have HRv := Lib.hid (show R = decide (l = [0] ∨ l = [1]) by rw [HR1.out]; rfl)
      clear HR1
      by_cases h1 : len = 1
      · subst h1
        match l, HL.out with
        | [x], _ =>
          obtain ⟨b, off, ha, -⟩ := HAA.out w (Below.refl _ _) 0 (by simp)
          subst ha
          have HC0 := Lib.hid (fun W (hW : Ext w W) => show W.cell? ⟨b, off, none⟩ = some (.int .i64 x) from by
            obtain ⟨b', off', e, hc⟩ := HAA.out W hW 0 (by simp)
            cases e
            exact hc)
          have HRw := Lib.hid (show R = (decide (x = 0) || decide (x = 1)) by rw [HRv.out]; simp)
          clear HRv HAA HL
          go_enter Tryd.func49, Tryd.ntmps49
          go_wp2_with fail
          refine (KC.out _ HX.out).mono ?_
          intro w2 hE2
          obtain ⟨m0, m1⟩ := HMD.out w2 hE2
          have HE2 := Lib.hid (Ext.trans HX.out hE2)
          have c0 := HC0.out w2 HE2.out
          clear hE2
          by_cases hx0 : x = 0
          · have g1 : (x == 0) = true := by simpa using hx0
            have HRx := Lib.hid (show R = true by rw [HRw.out, hx0]; rfl)
            clear hx0
            go_wp2
            go_ret
            exact ⟨by rw [HRx.out]; rfl, HE2.out⟩
          · have g1 : (x == 0) = false := by simpa using hx0
            by_cases hx1 : x = 1
            · have g2 : (x == 1) = true := by simpa using hx1
              have HRx := Lib.hid (show R = true by rw [HRw.out, hx1]; rfl)
              clear hx0 hx1
              go_wp2
              go_ret
              exact ⟨by rw [HRx.out]; rfl, HE2.out⟩
            · have g2 : (x == 1) = false := by simpa using hx1
              have HRx := Lib.hid (show R = false by rw [HRw.out]; simp [hx0, hx1])
              clear hx0 hx1
              go_wp2
              go_ret
              exact ⟨by rw [HRx.out]; rfl, HE2.out⟩
      · have g1 : ((len : Int) == 1) = false := by simp; omega
        have HRx := Lib.hid (show R = false by
          rw [HRv.out, decide_eq_false_iff_not]
          rintro (e | e) <;> rw [← HL.out, e] at h1 <;> exact h1 rfl)
        clear HRv h1
        go_enter Tryd.func49, Tryd.ntmps49
        go_wp2_with fail
        refine (KC.out _ HX.out).mono ?_
        intro w2 hE2
        obtain ⟨m0, m1⟩ := HMD.out w2 hE2
        have HE2 := Lib.hid (Ext.trans HX.out hE2)
        clear hE2
        go_wp2
        go_ret
        exact ⟨by rw [HRx.out]; rfl, HE2.out⟩
    · have HRv := Lib.hid (show R = (decide (len ≤ 100 ∧ (z ≤ 0 ∨ (len : Int) ≤ z)) && (decide (k ≠ 5) || ascL l)) by rw [HR1.out, if_neg (by omega), if_neg (by omega)])
      clear HR1
      have d1 : (k == 1) = false := by simp; omega
      have d2 : (k == 2) = false := by simp; omega
      have d6 : (k == 6) = false := by simp; omega
      by_cases h100 : 100 < len
      · have g1 : decide ((100 : Int) < (len : Int)) = true := by simp; omega
        have HRx := Lib.hid (show R = false by rw [HRv.out, decide_eq_false (by omega)]; rfl)
        clear HRv h100 hk
        go_enter Tryd.func49, Tryd.ntmps49
        go_wp2_with fail
        refine (KC.out _ HX.out).mono ?_
        intro w2 hE2
        obtain ⟨m0, m1⟩ := HMD.out w2 hE2
        have HE2 := Lib.hid (Ext.trans HX.out hE2)
        clear hE2
        go_wp2
        go_ret
        exact ⟨by rw [HRx.out]; rfl, HE2.out⟩
      · have g1 : decide ((100 : Int) < (len : Int)) = false := by simp; omega
        by_cases hzz : 0 < z ∧ z < (len : Int)
        · have g2 : decide (0 < z) = true := by simpa using hzz.1
          have g3 : decide (z < (len : Int)) = true := by simpa using hzz.2
          have HRx := Lib.hid (show R = false by rw [HRv.out, decide_eq_false (by omega)]; rfl)
          clear HRv h100 hk hzz
          go_enter Tryd.func49, Tryd.ntmps49
          go_wp2_with fail
          refine (KC.out _ HX.out).mono ?_
          intro w2 hE2
          obtain ⟨m0, m1⟩ := HMD.out w2 hE2
          have HE2 := Lib.hid (Ext.trans HX.out hE2)
          clear hE2
          go_wp2
          go_ret
          exact ⟨by rw [HRx.out]; rfl, HE2.out⟩
        · have hcase : decide (0 < z) = false ∨ (decide (0 < z) = true ∧ decide (z < (len : Int)) = false) := by
            by_cases h0 : 0 < z
            · right; exact ⟨by simpa using h0, by simp; omega⟩
            · left; simpa using h0
          have HRw := Lib.hid (show R = (decide (k ≠ 5) || ascL l) by rw [HRv.out, decide_eq_true (by omega)]; rfl)
          clear HRv hzz
          rcases hk with rfl | rfl | rfl
          · have HRx := Lib.hid (show R = true by rw [HRw.out]; rfl)
            clear HRw h100
            rcases hcase with g2 | ⟨g2, g3⟩
            all_goals
              go_enter Tryd.func49, Tryd.ntmps49
              go_wp2_with fail
              refine (KC.out _ HX.out).mono ?_
              intro w2 hE2
              obtain ⟨m0, m1⟩ := HMD.out w2 hE2
              have HE2 := Lib.hid (Ext.trans HX.out hE2)
              clear hE2
              go_wp2
              go_ret
              exact ⟨by rw [HRx.out]; rfl, HE2.out⟩
          · have HRx := Lib.hid (show R = true by rw [HRw.out]; rfl)
            clear HRw h100
            rcases hcase with g2 | ⟨g2, g3⟩
            all_goals
              go_enter Tryd.func49, Tryd.ntmps49
              go_wp2_with fail
              refine (KC.out _ HX.out).mono ?_
              intro w2 hE2
              obtain ⟨m0, m1⟩ := HMD.out w2 hE2
              have HE2 := Lib.hid (Ext.trans HX.out hE2)
              clear hE2
              go_wp2
              go_ret
              exact ⟨by rw [HRx.out]; rfl, HE2.out⟩
          · have HRx := Lib.hid (show R = ascL l by rw [HRw.out]; simp)
            clear HRw h100
            rcases hcase with g2 | ⟨g2, g3⟩
            all_goals
              go_enter Tryd.func49, Tryd.ntmps49
              go_wp2_with fail
              refine (KC.out _ HX.out).mono ?_
              intro w2 hE2
              obtain ⟨m0, m1⟩ := HMD.out w2 hE2
              have HE2 := Lib.hid (Ext.trans HX.out hE2)
              clear hE2
              go_wp2_with fail
              go_loopw [5] (fun i wr => ∃ q : Nat, i = .int .i64 ((q : Int) + 1) ∧ q ≤ len ∧ (∀ i (h : i + 1 < l.length), i < q → l[i] < l[i + 1]) ∧ Ext w2 wr) (fun i _ => len - (intOf i).toNat)
              case atStart => exact ⟨0, rfl, Nat.zero_le _, fun i h h' => by omega, Below.refl _ _⟩
              case round =>
                obtain ⟨q, rfl, hql, hin, hEr⟩ := hrel
                have HIN := Lib.hid hin
                have HER := Lib.hid (Ext.trans HE2.out hEr)
                have HER2 := Lib.hid hEr
                clear hin hEr
                by_cases hlt : q + 1 < len
                · have hjl : q + 1 < l.length := by rw [HL.out]; exact hlt
                  obtain ⟨b, off, ha, hc0⟩ := HAA.out wr HER.out q (by omega)
                  obtain ⟨b', off', ha', hc1⟩ := HAA.out wr HER.out (q + 1) hjl
                  rw [ha] at ha'
                  cases ha'
                  subst ha
                  have hc1' : wr.cell? ⟨b, off + q + 1, none⟩ = some (.int .i64 l[q + 1]) := hc1
                  have hq0 : (0 : Int) ≤ (q : Int) := by omega
                  have hq1 : (q : Int) < (len : Int) := by omega
                  have hq2 : (0 : Int) ≤ (q : Int) + 1 := by omega
                  have hq3 : (q : Int) + 1 < (len : Int) := by omega
                  have hn1 : ((q : Int) + 1).toNat = q + 1 := by omega
                  have HSX := Lib.hid (fun (h : l[q] < l[q + 1]) => show ∀ i (h : i + 1 < l.length), i < q + 1 → l[i] < l[i + 1] from fun i hi h' => by
                    by_cases e : i = q
                    · subst e; exact h
                    · exact HIN.out i hi (by omega))
                  have HSY := Lib.hid (fun (h : ¬ l[q] < l[q + 1]) => show R = false by
                    rw [HRx.out]
                    cases ha : ascL l with
                    | false => rfl
                    | true => exact absurd (ascL_adj.1 ha q hjl) h)
                  generalize l[q] = x at *
                  generalize l[q + 1] = y at *
                  by_cases hxy : x < y
                  · have g7 : decide (y ≤ x) = false := by simp; omega
                    have HS1 := Lib.hid (HSX.out hxy)
                    clear hxy
                    go_wp2_with fail
                    go_quiet (fail)
                    go_wp2
                    exact ⟨⟨q + 1, by go_num, by omega, HS1.out, Ext.drewN' HER2.out⟩, by simp [intOf]; omega⟩
                  · have g7 : decide (y ≤ x) = true := by simp; omega
                    have HS1 := Lib.hid (HSY.out hxy)
                    clear hxy
                    go_wp2_with fail
                    go_quiet (fail)
                    go_wp2
                    go_ret
                    exact ⟨by rw [HS1.out]; rfl, Ext.drewN' HER.out⟩
                · have hge : ¬ ((q : Int) + 1 < (len : Int)) := by omega
                  have HRy := Lib.hid (show R = true by rw [HRx.out, ascL_adj]; exact fun i h => HIN.out i h (by rw [HL.out] at h; omega))
                  go_wp2
                  go_ret
                  exact ⟨by rw [HRy.out]; rfl, HER.out⟩
end Go.Proofs.YtmbkjccckmlacaaDoor

namespace Go.Proofs.YtmbkjccckmlacaaDoor
open Go.RowKit
set_option linter.unusedVariables false
set_option linter.unusedSimpArgs false

/-- what Apply returns -/
def apR (k z : Int) (l : List Int) (m a : Int) : List Int × Int × Int := if mdE k z ≠ 0 then ([], 0, mdE k z) else if stR k z l = false then ([], 0, 1) else apM k z l m a
theorem st_len {k z : Int} {l : List Int} (h : stR k z l = true) : l.length ≤ 100 := by
  unfold stR at h
  simp only [Bool.and_eq_true] at h
  obtain ⟨-, h⟩ := h
  split at h
  · have := of_decide_eq_true h; omega
  · split at h
    · rcases of_decide_eq_true h with rfl | rfl <;> simp
    · simp only [Bool.and_eq_true, decide_eq_true_eq] at h
      exact h.1.1
theorem insM_len (z : Int) (l : List Int) (i : Nat) (x : Int) : (insM z l i x).1.length ≤ l.length + 1 := by
  unfold insM
  by_cases h1 : 0 < z ∧ z ≤ l.length
  · rw [if_pos h1]; dsimp only; omega
  · rw [if_neg h1]
    by_cases h2 : 100 ≤ l.length
    · rw [if_pos h2]; simp
    · rw [if_neg h2]; simp only [List.length_append, List.length_take, List.length_cons, List.length_drop]; omega
theorem erase_len (l : List Int) (i : Nat) : (l.eraseIdx i).length ≤ l.length + 1 := by
  rw [List.length_eraseIdx]
  split <;> omega
theorem remM_len (l : List Int) (i : Nat) : (remM l i).1.length ≤ l.length + 1 := by
  unfold remM
  by_cases h1 : l = []
  · rw [if_pos h1]; dsimp only; omega
  · rw [if_neg h1]; exact erase_len l i
theorem len_ite {c : Prop} [Decidable c] {x y : List Int × Int × Int} {n : Nat} (hx : x.1.length ≤ n) (hy : y.1.length ≤ n) : (if c then x else y).1.length ≤ n := by
  by_cases h : c
  · rw [if_pos h]; exact hx
  · rw [if_neg h]; exact hy
theorem apM_len (k z : Int) (l : List Int) (m a : Int) : (apM k z l m a).1.length ≤ l.length + 1 := by
  have h1 : ∀ (x : Int) (y z : Int), (([x], y, z) : List Int × Int × Int).1.length ≤ l.length + 1 := fun x y z => by simp
  have h0 : ∀ (y z : Int), (([], y, z) : List Int × Int × Int).1.length ≤ l.length + 1 := fun y z => by simp
  have hl : ∀ (y z : Int), ((l, y, z) : List Int × Int × Int).1.length ≤ l.length + 1 := fun y z => Nat.le_succ _
  unfold apM
  refine len_ite (h0 _ _) (len_ite (h0 _ _) (len_ite (len_ite (hl _ _) (h1 _ _ _)) (len_ite (len_ite (hl _ _) (len_ite (h1 _ _ _) (h0 _ _))) (len_ite (len_ite (insM_len _ _ _ _) (remM_len _ _)) (len_ite (len_ite (insM_len _ _ _ _) (remM_len _ _)) (len_ite (len_ite (len_ite (hl _ _) (insM_len _ _ _ _)) (len_ite (len_ite (erase_len _ _) (hl _ _)) (hl _ _))) (len_ite (len_ite (h1 _ _ _) (h0 _ _)) (len_ite (h1 _ _ _) (h0 _ _)))))))))
/-- a row of the call's own, a number, an error -/
def AyP (w : World) (R : List Int × Int × Int) (e : Ending) (w' : World) : Prop := ∃ v, e = .returned (.tuple #[v, .int .i64 R.2.1, .int .i64 R.2.2]) ∧ RowI w.heap.size v R.1 w' ∧ Ext w w'
set_option maxRecDepth 100000 in
set_option maxHeartbeats 4000000 in
theorem Apply_any (k z : Int) (l : List Int) (m arg : Int) (a : Option Addr) (c : Nat) (w : World) (hl : l.length ≤ maxLen) (hA : IntsAt w a l) (hc : l.length ≤ c) :
    Calls Tryd.prog 23 #[.agg #[.int .i64 k, .int .i64 z], .slice a l.length c, .int .i64 m, .int .i64 arg] w (AyP w (apR k z l m arg)) := by
  have HX := Lib.hid (ext_allocN w (.cells #[.int .i64 k, .int .i64 z] 23))
  have HMD := Lib.hid (mdCells w k z)
  have KM := Lib.hid (fun W => checkModel_any k z W)
  have KI := Lib.hid (fun W (hW : Ext w W) (h1 : 1 ≤ k) (h6 : k ≤ 6) => isState_any k z l a c W h1 h6 hl (hA.ext hW))
  have KP := Lib.hid (fun W (hW : Ext w W) (h1 : 1 ≤ k) (h6 : k ≤ 6) (hs : stR k z l = true) => apply_any k z l m arg a c W h1 h6 hs (hA.ext hW) hc)
  have HLN := Lib.hid (fun (hs : stR k z l = true) => show (apM k z l m arg).1.length ≤ 1000000000 from by have := apM_len k z l m arg; have := st_len hs; omega)
  have HR := Lib.hid (show apR k z l m arg = if mdE k z ≠ 0 then ([], 0, mdE k z) else if stR k z l = false then ([], 0, 1) else apM k z l m arg from rfl)
  have HMK := Lib.hid (fun (h : mdE k z = 0) => mdE_k h)
  generalize apR k z l m arg = R at *
  generalize apM k z l m arg = Z at *
  generalize l.length = len at *
  unfold maxLen at hl
  unfold AyP
  clear hA
  obtain ⟨wk, hwk⟩ : ∃ W, W = w.alloc (.cells #[.int .i64 k, .int .i64 z] 23) := ⟨_, rfl⟩
  have hwk' := hwk.symm
  rw [hwk'] at HX HMD
  clear hwk
  obtain ⟨m0, m1⟩ := HMD.out wk (Below.refl _ _)
  by_cases hm : mdE k z = 0
  · obtain ⟨hk1, hk6⟩ := HMK.out hm
    rw [hm] at KM HR
    cases hs : stR k z l with
    | false =>
      rw [hs] at KI HR
      have HRv := Lib.hid (show R = ([], 0, 1) by rw [HR.out]; rfl)
      clear HR KP HLN hm hs
      go_enter Tryd.func23, Tryd.ntmps23
      go_wp2_with fail
      try rw [hwk']
      refine (KM.out _).mono ?_
      intro w2 hE2
      have HX2 := Lib.hid hE2
      have HE2 := Lib.hid (Ext.trans HX.out hE2)
      clear hE2 m0 m1
      obtain ⟨m0, m1⟩ := HMD.out w2 HX2.out
      go_wp2_with fail
      refine (KI.out _ HE2.out hk1 hk6).mono ?_
      intro w3 hE3
      have HE3 := Lib.hid (Ext.trans HE2.out hE3)
      clear hE3 m0 m1
      go_wp2
      go_ret3
      obtain rfl := HRv.out
      exact ⟨_, rfl, RowI.nil _ _, HE3.out⟩
    | true =>
      rw [hs] at KI
      have HRv := Lib.hid (show R = Z by rw [HR.out, if_neg (by simp), if_neg (by rw [hs]; simp)])
      have HP := Lib.hid (fun W (hW : Ext w W) => KP.out W hW hk1 hk6 hs)
      have HZL := Lib.hid (HLN.out hs)
      have HKI := Lib.hid (fun W (hW : Ext w W) => KI.out W hW hk1 hk6)
      clear HR KP HLN hm hs KI
      obtain ⟨Z1, rs, er⟩ := Z
      unfold ApP at HP
      dsimp only at HP HZL
      go_enter Tryd.func23, Tryd.ntmps23
      go_wp2_with fail
      try rw [hwk']
      refine (KM.out _).mono ?_
      intro w2 hE2
      have HX2 := Lib.hid hE2
      have HE2 := Lib.hid (Ext.trans HX.out hE2)
      clear hE2 m0 m1
      obtain ⟨m0, m1⟩ := HMD.out w2 HX2.out
      go_wp2_with fail
      refine (HKI.out _ HE2.out).mono ?_
      intro w3 hE3
      have HX3 := Lib.hid (Ext.trans HX2.out hE3)
      have HE3 := Lib.hid (Ext.trans HE2.out hE3)
      clear hE3 m0 m1
      obtain ⟨m0, m1⟩ := HMD.out w3 HX3.out
      go_wp2_with fail
      refine (HP.out _ HE3.out).mono ?_
      rintro e w4 ⟨a4, c4, rfl, hI4, hc4, hE4, hF4⟩
      have HE4 := Lib.hid (Ext.trans HE3.out hE4)
      have KL := Lib.hid (CloneI_row Z1 a4 c4 w4 HZL.out hI4)
      generalize Z1.length = lz at *
      clear hE4 hI4 hc4 hF4 m0 m1
      go_wp2_with fail
      refine KL.out.mono ?_
      rintro e w5 ⟨v5, rfl, hr5, hE5⟩
      have HRW := Lib.hid (hr5.le HE4.out.size)
      have HE5 := Lib.hid (Ext.trans HE4.out hE5)
      clear hr5 hE5
      go_wp2
      go_ret3
      obtain rfl := HRv.out
      exact ⟨_, rfl, HRW.out, HE5.out⟩
  · have HRv := Lib.hid (show R = ([], 0, mdE k z) by rw [HR.out, if_pos hm])
    have g1 : (mdE k z != 0) = true := by rw [bne_iff_ne]; exact hm
    clear HR KP HLN hm KI HMK
    generalize mdE k z = E at *
    go_enter Tryd.func23, Tryd.ntmps23
    go_wp2_with fail
    try rw [hwk']
    refine (KM.out _).mono ?_
    intro w2 hE2
    have HE2 := Lib.hid (Ext.trans HX.out hE2)
    clear hE2 m0 m1
    go_wp2
    go_ret3
    obtain rfl := HRv.out
    exact ⟨_, rfl, RowI.nil _ _, HE2.out⟩
end Go.Proofs.YtmbkjccckmlacaaDoor

namespace Go.Proofs.YtmbkjccckmlacaaDoor
open Go.RowKit
set_option linter.unusedVariables false
set_option linter.unusedSimpArgs false

/-- a goal that the elaborator does not evaluate -/
structure Cx (p : Prop) : Prop where
  out : p
theorem wpStill_stepC {P : Program} {ops : Array Oper} {w : World} {Q : Act → Prop} {a : Act} {o : Oper} {rest : List Oper} (h : ∀ K : Act → Prop, (∀ a, Cx (wpStill P ops w Q rest a) → K a) → if Region.wanted o (yielded ops a.tmps) then o.still P a w K else K (a.put o.dst undef)) : Cx (wpStill P ops w Q (o :: rest) a) := ⟨wpStill_step fun K hK => h K (fun a g => hK a g.out)⟩
theorem refNumber_any (n : Int) (w : World) : Calls Tryd.prog 54 #[.int .i64 n] w (fun e w' => e = .returned (.bool (inM n)) ∧ w' = w) := by
  have HI := Lib.hid (show inM n = (decide (-1099511627776 ≤ n) && decide (n ≤ 1099511627776)) by unfold inM; rw [Bool.decide_and])
  generalize inM n = R at *
  by_cases h1 : -1099511627776 ≤ n
  · have d1 : decide (-1099511627776 ≤ n) = true := by simpa using h1
    go_enter Tryd.func54, Tryd.ntmps54
    go_wp2
    go_ret
    exact ⟨by rw [HI.out]; simp [d1], rfl⟩
  · have d1 : decide (-1099511627776 ≤ n) = false := by simp; omega
    go_enter Tryd.func54, Tryd.ntmps54
    go_wp2
    go_ret
    exact ⟨by rw [HI.out, d1]; rfl, rfl⟩
theorem refKnown_any (k z m : Int) (w : World) : Gives Tryd.prog 53 #[.agg #[.int .i64 k, .int .i64 z], .int .i64 m] w (.bool (knM k m)) := by
  unfold Gives
  have HX := Lib.hid (ext_allocN w (.cells #[.int .i64 k, .int .i64 z] 23))
  have c0 := mdb0 w k z
  have HI := Lib.hid (show knM k m = decide (m = 1 ∨ m = 2 ∨ m = 3 ∧ k = 5) from rfl)
  generalize knM k m = R at *
  by_cases h1 : m = 1
  · have d1 : (m == 1) = true := by simpa using h1
    have HRv := Lib.hid (show R = true by rw [HI.out]; simp [h1])
    clear h1
    go_enter Tryd.func53, Tryd.ntmps53
    go_wp2
    go_ret
    exact ⟨by rw [HRv.out]; rfl, HX.out⟩
  have d1 : (m == 1) = false := by simpa using h1
  by_cases h2 : m = 2
  · have d2 : (m == 2) = true := by simpa using h2
    have HRv := Lib.hid (show R = true by rw [HI.out]; simp [h2])
    clear h1 h2
    go_enter Tryd.func53, Tryd.ntmps53
    go_wp2
    go_ret
    exact ⟨by rw [HRv.out]; rfl, HX.out⟩
  have d2 : (m == 2) = false := by simpa using h2
  by_cases h3 : m = 3
  · have d3 : (m == 3) = true := by simpa using h3
    have d5 : (k == 5) = R := by rw [HI.out, Bool.eq_iff_iff]; simp [h3]
    clear h1 h2 h3
    go_enter Tryd.func53, Tryd.ntmps53
    go_wp2
    go_ret
    exact ⟨rfl, HX.out⟩
  · have d3 : (m == 3) = false := by simpa using h3
    have HRv := Lib.hid (show R = false by rw [HI.out]; simp [h1, h2, h3])
    clear h1 h2 h3
    go_enter Tryd.func53, Tryd.ntmps53
    go_wp2
    go_ret
    exact ⟨by rw [HRv.out]; rfl, HX.out⟩
set_option maxRecDepth 100000 in
set_option maxHeartbeats 2000000 in
theorem refCheckModel_any (k z : Int) (w : World) : Gives Tryd.prog 51 #[.agg #[.int .i64 k, .int .i64 z]] w (.int .i64 (mdE k z)) := by
  unfold Gives
  have HX := Lib.hid (ext_allocN w (.cells #[.int .i64 k, .int .i64 z] 23))
  have c0 := mdb0 w k z
  have c1 := mdb1 w k z
  have HM := Lib.hid (show mdE k z = if k < 1 ∨ 6 < k then 8 else if z < 0 ∨ (if lsM k then 100 else 0) < z then 2 else 0 from rfl)
  generalize mdE k z = R at *
  by_cases h1 : k < 1
  · have d1 : decide (k < 1) = true := by simpa using h1
    have HR := Lib.hid (show R = 8 by rw [HM.out, if_pos (Or.inl h1)])
    clear h1
    go_enter Tryd.func51, Tryd.ntmps51
    go_wp2
    go_ret
    exact ⟨by rw [HR.out]; rfl, HX.out⟩
  have d1 : decide (k < 1) = false := by simpa using h1
  by_cases h2 : 6 < k
  · have d2 : decide (6 < k) = true := by simpa using h2
    have HR := Lib.hid (show R = 8 by rw [HM.out, if_pos (Or.inr h2)])
    clear h1 h2
    go_enter Tryd.func51, Tryd.ntmps51
    go_wp2
    go_ret
    exact ⟨by rw [HR.out]; rfl, HX.out⟩
  have d2 : decide (6 < k) = false := by simpa using h2
  have HM2 := Lib.hid (show R = if z < 0 ∨ (if lsM k then 100 else 0) < z then 2 else 0 by rw [HM.out, if_neg (by omega)])
  have hz : (z < 0 ∧ decide (z < 0) = true ∧ R = 2) ∨ (decide (z < 0) = false ∧ decide (100 < z) = true ∧ R = 2) ∨ (decide (z < 0) = false ∧ decide (100 < z) = false ∧ (z == 0) = true ∧ R = 0) ∨ (decide (z < 0) = false ∧ decide (100 < z) = false ∧ (z == 0) = false ∧ R = if lsM k then 0 else 2) := by
    by_cases a1 : z < 0
    · exact .inl ⟨a1, by simpa using a1, by rw [HM2.out, if_pos (Or.inl a1)]⟩
    · by_cases a2 : 100 < z
      · exact .inr (.inl ⟨by simpa using a1, by simpa using a2, by rw [HM2.out, if_pos (Or.inr (by split <;> omega))]⟩)
      · by_cases a3 : z = 0
        · exact .inr (.inr (.inl ⟨by simpa using a1, by simpa using a2, by simpa using a3, by rw [HM2.out, if_neg (by split <;> omega)]⟩))
        · refine .inr (.inr (.inr ⟨by simpa using a1, by simpa using a2, by simpa using a3, ?_⟩))
          rw [HM2.out]
          cases lsM k with
          | true => rw [if_neg (by simp; omega)]; rfl
          | false => rw [if_pos (by simp; omega)]; rfl
  have hk : (lsM k = true ∧ (k == 3) = true) ∨ (lsM k = true ∧ (k == 3) = false ∧ (k == 4) = true) ∨ (lsM k = true ∧ (k == 3) = false ∧ (k == 4) = false ∧ (k == 5) = true) ∨ (lsM k = false ∧ (k == 3) = false ∧ (k == 4) = false ∧ (k == 5) = false) := by
    unfold lsM
    have : k = 1 ∨ k = 2 ∨ k = 3 ∨ k = 4 ∨ k = 5 ∨ k = 6 := by omega
    rcases this with rfl | rfl | rfl | rfl | rfl | rfl <;> simp
  clear HM HM2 h1 h2
  rcases hk with ⟨e, f3⟩ | ⟨e, f3, f4⟩ | ⟨e, f3, f4, f5⟩ | ⟨e, f3, f4, f5⟩
  all_goals
    rw [e] at hz
    clear e
    rcases hz with ⟨-, g1, hR⟩ | ⟨g1, g2, hR⟩ | ⟨g1, g2, g3, hR⟩ | ⟨g1, g2, g3, hR⟩
    all_goals
      have HR := Lib.hid hR
      clear hR
      go_enter Tryd.func51, Tryd.ntmps51
      go_wp2
      go_ret
      exact ⟨by rw [HR.out]; rfl, HX.out⟩
end Go.Proofs.YtmbkjccckmlacaaDoor

namespace Go.Proofs.YtmbkjccckmlacaaDoor
open Go.RowKit
set_option linter.unusedVariables false
set_option linter.unusedSimpArgs false

set_option maxRecDepth 100000 in
set_option maxHeartbeats 4000000 in
theorem refValid_any (k z : Int) (l : List Int) (a : Option Addr) (c : Nat) (w : World) (hk1 : 1 ≤ k) (hk6 : k ≤ 6) (hz0 : 0 ≤ z) (hl : l.length ≤ maxLen) (hA : IntsAt w a l) :
    Gives Tryd.prog 52 #[.agg #[.int .i64 k, .int .i64 z], .slice a l.length c] w (.bool (stR k z l)) := by
  unfold Gives
  have HX := Lib.hid (ext_allocN w (.cells #[.int .i64 k, .int .i64 z] 23))
  have HMD := Lib.hid (mdCells w k z)
  have HAA := Lib.hid (fun W (hW : Ext w W) => hA.ext hW)
  have HR := Lib.hid (show stR k z l = (l.all inM && (if k = 1 ∨ k = 2 then decide (l.length = 1) else if k = 6 then decide (l = [0] ∨ l = [1]) else decide (l.length ≤ 100 ∧ (z ≤ 0 ∨ (l.length : Int) ≤ z)) && (decide (k ≠ 5) || ascL l))) from rfl)
  generalize stR k z l = R at *
  obtain ⟨len, hlen⟩ : ∃ n, l.length = n := ⟨_, rfl⟩
  rw [hlen] at HR hl ⊢
  have HL := Lib.hid hlen
  unfold maxLen at hl
  clear hlen hA
  obtain ⟨wk, hwk⟩ : ∃ W, W = w.alloc (.cells #[.int .i64 k, .int .i64 z] 23) := ⟨_, rfl⟩
  have hwk' := hwk.symm
  rw [hwk'] at HX HMD
  clear hwk
  have HK := Lib.hid (And.intro hk1 hk6)
  clear hk1 hk6
  go_enter Tryd.func52, Tryd.ntmps52
  go_wp2_with fail
  try rw [hwk']
  go_loopw [5] (fun i wr => ∃ j : Nat, j ≤ len ∧ i = .int .i64 (j : Int) ∧ (l.take j).all inM = true ∧ (k = 5 → ∀ i (h : i + 1 < l.length), i + 1 < j → l[i] < l[i + 1]) ∧ Ext wk wr) (fun i _ => len - (intOf i).toNat)
  case atStart => exact ⟨0, Nat.zero_le _, rfl, by simp, fun _ i h h' => by omega, Below.refl _ _⟩
  case round =>
    obtain ⟨j, hj, rfl, hall, hasc, hEr⟩ := hrel
    have HALL := Lib.hid hall
    have HASC := Lib.hid hasc
    have HER := Lib.hid hEr
    clear hall hasc hEr
    obtain ⟨m0, m1⟩ := HMD.out wr HER.out
    by_cases hlt : j < len
    · have hjl : j < l.length := by rw [HL.out]; exact hlt
      obtain ⟨b, off, ha, hc0⟩ := HAA.out wr (Ext.trans HX.out HER.out) j hjl
      subst ha
      have hi0 : (0 : Int) ≤ (j : Int) := by omega
      have hi1 : (j : Int) < (len : Int) := by omega
      have HS := Lib.hid (show (l.take (j + 1)).all inM = (inM l[j]) by rw [List.take_succ_eq_append_getElem hjl, List.all_append, HALL.out]; simp)
      have HN := Lib.hid (show inM l[j] = false → l.all inM = false from fun hq => by
        cases h : l.all inM with
        | false => rfl
        | true => have := List.all_eq_true.1 h l[j] (List.getElem_mem hjl); rw [hq] at this; cases this)
      cases hin : inM l[j] with
      | false =>
        have HRv := Lib.hid (show R = false by rw [HR.out, HN.out hin]; rfl)
        have C := Lib.hid (fun W => hin ▸ refNumber_any l[j] W)
        clear hin
        generalize l[j] = x at *
        go_wp2_with fail
        refine wp_region_still_lit (by kernel_rfl) (by kernel_rfl) ?_
        refine Cx.out ?_
        iterate 4 (refine wpStill_stepC (fun K hK => ?_); go_simp; refine hK _ ?_; clear hK K)
        (refine wpStill_stepC (fun K hK => ?_); go_simp; refine ⟨_, C.out _, hK _ ?_⟩; clear hK K)
        iterate 22 (refine wpStill_stepC (fun K hK => ?_); go_simp; refine hK _ ?_; clear hK K)
        refine ⟨wpStill_nil ?_⟩
        go_wp2
        go_ret
        exact ⟨by rw [HRv.out]; rfl, Ext.drewN' (n := 1) (Ext.trans HX.out HER.out)⟩
      | true =>
        have HS2 := Lib.hid (show (l.take (j + 1)).all inM = true by rw [HS.out, hin])
        have C := Lib.hid (fun W => hin ▸ refNumber_any l[j] W)
        clear hin
        by_cases h5 : k = 5
        · have d5 : (k == 5) = true := by simpa using h5
          have H5 := Lib.hid h5
          by_cases hj0 : j = 0
          · subst hj0
            have HA1 := Lib.hid (show k = 5 → ∀ i (h : i + 1 < l.length), i + 1 < 0 + 1 → l[i] < l[i + 1] from fun _ i h h' => by omega)
            clear h5
            have hc00 : wr.cell? ⟨b, off, none⟩ = some (.int .i64 l[0]) := hc0
            generalize l[0] = x at *
            go_wp2_with fail
            refine wp_region_still_lit (by kernel_rfl) (by kernel_rfl) ?_
            refine Cx.out ?_
            iterate 4 (refine wpStill_stepC (fun K hK => ?_); go_simp; refine hK _ ?_; clear hK K)
            (refine wpStill_stepC (fun K hK => ?_); go_simp; refine ⟨_, C.out _, hK _ ?_⟩; clear hK K)
            iterate 22 (refine wpStill_stepC (fun K hK => ?_); go_simp; refine hK _ ?_; clear hK K)
            refine ⟨wpStill_nil ?_⟩
            go_wp2
            exact ⟨⟨0 + 1, by omega, by go_num, HS2.out, HA1.out, Ext.drewN' (n := 1) HER.out⟩, by simp [intOf]; omega⟩
          · obtain ⟨q, rfl⟩ : ∃ q, j = q + 1 := ⟨j - 1, by omega⟩
            obtain ⟨b', off', ha', hc1⟩ := HAA.out wr (Ext.trans HX.out HER.out) q (by omega)
            cases ha'
            have hq0 : (0 : Int) ≤ (q : Int) := by omega
            have hq1 : (q : Int) < (len : Int) := by omega
            have hq2 : decide ((0 : Int) < ((q + 1 : Nat) : Int)) = true := decide_eq_true (by omega)
            have hq3 : decide ((0 : Int) < (q : Int) + 1) = true := decide_eq_true (by omega)
            have hq4 : (q : Int) + 1 < (len : Int) := by omega
            have hwq : IntKind.i64.wrap (q : Int) = (q : Int) := wrap_nat q (by omega)
            have hq5 : (0 : Int) ≤ (q : Int) + 1 := by omega
            have hn1 : ((q : Int) + 1).toNat = q + 1 := by omega
            have hc0' : wr.cell? ⟨b, off + q + 1, none⟩ = some (.int .i64 l[q + 1]) := hc0
            have HA1 := Lib.hid (fun (h : l[q] < l[q + 1]) => show k = 5 → ∀ i (h : i + 1 < l.length), i + 1 < q + 1 + 1 → l[i] < l[i + 1] from fun e i hi h' => by
              by_cases e' : i = q
              · subst e'; exact h
              · exact HASC.out e i hi (by omega))
            have HAN := Lib.hid (fun (h : ¬ l[q] < l[q + 1]) => show R = false by
              rw [HR.out, if_neg (by omega), if_neg (by omega)]
              cases ha : ascL l with
              | false => simp [H5.out]
              | true => exact absurd (ascL_adj.1 ha q hjl) h)
            clear h5 hj0
            generalize l[q] = x at *
            generalize l[q + 1] = y at *
            by_cases hxy : x < y
            · have g7 : decide (y ≤ x) = false := by simp; omega
              have HA2 := Lib.hid (HA1.out hxy)
              clear hxy
              go_wp2_with fail
              refine wp_region_still_lit (by kernel_rfl) (by kernel_rfl) ?_
              refine Cx.out ?_
              iterate 4 (refine wpStill_stepC (fun K hK => ?_); go_simp; refine hK _ ?_; clear hK K)
              (refine wpStill_stepC (fun K hK => ?_); go_simp; refine ⟨_, C.out _, hK _ ?_⟩; clear hK K)
              iterate 22 (refine wpStill_stepC (fun K hK => ?_); go_simp; refine hK _ ?_; clear hK K)
              refine ⟨wpStill_nil ?_⟩
              go_wp2
              exact ⟨⟨q + 1 + 1, by omega, by go_num, HS2.out, HA2.out, Ext.drewN' (n := 1) HER.out⟩, by simp [intOf]; omega⟩
            · have g7 : decide (y ≤ x) = true := by simp; omega
              have HRv := Lib.hid (HAN.out hxy)
              clear hxy
              go_wp2_with fail
              refine wp_region_still_lit (by kernel_rfl) (by kernel_rfl) ?_
              refine Cx.out ?_
              iterate 4 (refine wpStill_stepC (fun K hK => ?_); go_simp; refine hK _ ?_; clear hK K)
              (refine wpStill_stepC (fun K hK => ?_); go_simp; refine ⟨_, C.out _, hK _ ?_⟩; clear hK K)
              iterate 22 (refine wpStill_stepC (fun K hK => ?_); go_simp; refine hK _ ?_; clear hK K)
              refine ⟨wpStill_nil ?_⟩
              go_wp2
              go_ret
              exact ⟨by rw [HRv.out]; rfl, Ext.drewN' (n := 1) (Ext.trans HX.out HER.out)⟩
        · have d5 : (k == 5) = false := by simpa using h5
          have HA1 := Lib.hid (show k = 5 → ∀ i (h : i + 1 < l.length), i + 1 < j + 1 → l[i] < l[i + 1] from fun e => absurd e h5)
          clear h5
          generalize l[j] = x at *
          go_wp2_with fail
          refine wp_region_still_lit (by kernel_rfl) (by kernel_rfl) ?_
          refine Cx.out ?_
          iterate 4 (refine wpStill_stepC (fun K hK => ?_); go_simp; refine hK _ ?_; clear hK K)
          (refine wpStill_stepC (fun K hK => ?_); go_simp; refine ⟨_, C.out _, hK _ ?_⟩; clear hK K)
          iterate 22 (refine wpStill_stepC (fun K hK => ?_); go_simp; refine hK _ ?_; clear hK K)
          refine ⟨wpStill_nil ?_⟩
          go_wp2
          exact ⟨⟨j + 1, by omega, by go_num, HS2.out, HA1.out, Ext.drewN' (n := 1) HER.out⟩, by simp [intOf]; omega⟩
    · have hjl : len = j := by omega
      subst hjl
      have HRa := Lib.hid (show R = (if k = 1 ∨ k = 2 then decide (len = 1) else if k = 6 then decide (l = [0] ∨ l = [1]) else decide (len ≤ 100 ∧ (z ≤ 0 ∨ (len : Int) ≤ z))) by
        have h1 := HALL.out
        rw [List.take_of_length_le (by rw [HL.out]; exact Nat.le_refl _)] at h1
        rw [HR.out, h1, Bool.true_and]
        by_cases e1 : k = 1 ∨ k = 2
        · rw [if_pos e1, if_pos e1]
        · rw [if_neg e1, if_neg e1]
          by_cases e6 : k = 6
          · rw [if_pos e6, if_pos e6]
          · rw [if_neg e6, if_neg e6]
            have : (decide (k ≠ 5) || ascL l) = true := by
              by_cases e5 : k = 5
              · rw [ascL_adj.2 (fun i h => HASC.out e5 i h (by rw [HL.out] at h; exact h))]; simp
              · simp [e5]
            rw [this, Bool.and_true])
      have HEw := Lib.hid (Ext.trans HX.out HER.out)
      by_cases e1 : k = 1
      · have d1 : (k == 1) = true := by simpa using e1
        have HRv := Lib.hid (show R = decide (len = 1) by rw [HRa.out, if_pos (Or.inl e1)])
        have g1 : ((len : Int) == 1) = decide (len = 1) := by rw [Bool.eq_iff_iff]; simp; omega
        clear e1
        generalize decide (len = 1) = bb at *
        go_wp2
        go_ret
        exact ⟨by rw [HRv.out]; rfl, HEw.out⟩
      have d1 : (k == 1) = false := by simpa using e1
      by_cases e2 : k = 2
      · have d2 : (k == 2) = true := by simpa using e2
        have HRv := Lib.hid (show R = decide (len = 1) by rw [HRa.out, if_pos (Or.inr e2)])
        have g1 : ((len : Int) == 1) = decide (len = 1) := by rw [Bool.eq_iff_iff]; simp; omega
        clear e1 e2
        generalize decide (len = 1) = bb at *
        go_wp2
        go_ret
        exact ⟨by rw [HRv.out]; rfl, HEw.out⟩
      have d2 : (k == 2) = false := by simpa using e2
      by_cases e6 : k = 6
      · have d6 : (k == 6) = true := by simpa using e6
        have HRv := Lib.hid (show R = decide (l = [0] ∨ l = [1]) by rw [HRa.out, if_neg (by omega), if_pos e6])
        clear e1 e2 e6
        by_cases h1 : len = 1
        · subst h1
          match l, HL.out with
          | [x], _ =>
            obtain ⟨b, off, ha, -⟩ := HAA.out w (Below.refl _ _) 0 (by simp)
            subst ha
            have hc0 : wr.cell? ⟨b, off, none⟩ = some (.int .i64 x) := by
              obtain ⟨b', off', e, hc⟩ := HAA.out wr HEw.out 0 (by simp)
              cases e
              exact hc
            have HRw := Lib.hid (show R = (decide (x = 0) || decide (x = 1)) by rw [HRv.out]; simp)
            by_cases hx0 : x = 0
            · have g1 : (x == 0) = true := by simpa using hx0
              have HRx := Lib.hid (show R = true by rw [HRw.out, hx0]; rfl)
              clear hx0
              go_wp2
              go_ret
              exact ⟨by rw [HRx.out]; rfl, HEw.out⟩
            · have g1 : (x == 0) = false := by simpa using hx0
              by_cases hx1 : x = 1
              · have g2 : (x == 1) = true := by simpa using hx1
                have HRx := Lib.hid (show R = true by rw [HRw.out, hx1]; rfl)
                clear hx0 hx1
                go_wp2
                go_ret
                exact ⟨by rw [HRx.out]; rfl, HEw.out⟩
              · have g2 : (x == 1) = false := by simpa using hx1
                have HRx := Lib.hid (show R = false by rw [HRw.out]; simp [hx0, hx1])
                clear hx0 hx1
                go_wp2
                go_ret
                exact ⟨by rw [HRx.out]; rfl, HEw.out⟩
        · have g1 : ((len : Int) == 1) = false := by simp; omega
          have HRx := Lib.hid (show R = false by
            rw [HRv.out, decide_eq_false_iff_not]
            rintro (e | e) <;> rw [← HL.out, e] at h1 <;> exact h1 rfl)
          clear h1
          go_wp2
          go_ret
          exact ⟨by rw [HRx.out]; rfl, HEw.out⟩
      · have d6 : (k == 6) = false := by simpa using e6
        have HRv := Lib.hid (show R = decide (len ≤ 100 ∧ (z ≤ 0 ∨ (len : Int) ≤ z)) by rw [HRa.out, if_neg (by omega), if_neg e6])
        clear e1 e2 e6
        by_cases h100 : len ≤ 100
        · have g1 : decide ((len : Int) ≤ 100) = true := by simp; omega
          by_cases hzz : z = 0
          · have g2 : (z == 0) = true := by simpa using hzz
            have HRx := Lib.hid (show R = true by rw [HRv.out, decide_eq_true (by omega)])
            clear h100 hzz
            go_wp2
            go_ret
            exact ⟨by rw [HRx.out]; rfl, HEw.out⟩
          · have g2 : (z == 0) = false := by simpa using hzz
            have HRx := Lib.hid (show R = decide ((len : Int) ≤ z) by rw [HRv.out, decide_eq_decide]; omega)
            generalize hb : decide ((len : Int) ≤ z) = bb at *
            clear h100 hzz
            go_wp2
            go_ret
            exact ⟨by rw [HRx.out]; rfl, HEw.out⟩
        · have g1 : decide ((len : Int) ≤ 100) = false := by simp; omega
          have HRx := Lib.hid (show R = false by rw [HRv.out, decide_eq_false (by omega)])
          clear h100
          go_wp2
          go_ret
          exact ⟨by rw [HRx.out]; rfl, HEw.out⟩
end Go.Proofs.YtmbkjccckmlacaaDoor

namespace Go.Proofs.YtmbkjccckmlacaaDoor
open Go.RowKit
set_option linter.unusedVariables false
set_option linter.unusedSimpArgs false

theorem posM_eq {x : Int} : ∀ {l : List Int} {j : Nat}, j ≤ l.length → (∀ i (h : i < l.length), i < j → l[i] < x) → (∀ (h : j < l.length), ¬ l[j] < x) → posM l x = j
  | [], j, h, _, _ => by simp at h; subst h; rfl
  | y :: t, 0, _, _, h2 => by
    have := h2 (by simp)
    simp only [List.getElem_cons_zero] at this
    unfold posM
    rw [List.takeWhile_cons_of_neg (by simpa using this)]
    rfl
  | y :: t, j + 1, h, h1, h2 => by
    have h0 := h1 0 (by simp) (by omega)
    simp only [List.getElem_cons_zero] at h0
    unfold posM
    rw [List.takeWhile_cons_of_pos (by simpa using h0), List.length_cons]
    have := posM_eq (x := x) (l := t) (j := j) (by simpa using h) (fun i hi hij => h1 (i + 1) (by simpa using hi) (by omega)) (fun hj => h2 (by simpa using hj))
    unfold posM at this
    rw [this]
set_option maxRecDepth 100000 in
set_option maxHeartbeats 4000000 in
theorem refPosition_any (l : List Int) (x : Int) (a : Option Addr) (c : Nat) (w : World) (hl : l.length ≤ 100000) (hA : IntsAt w a l) :
    Gives Tryd.prog 74 #[.slice a l.length c, .int .i64 x] w (.tuple #[.int .i64 (posM l x : Int), .bool (isM l x)]) := by
  unfold Gives
  have HAA := Lib.hid (fun W (hW : Ext w W) => hA.ext hW)
  have HI := Lib.hid (show isM l x = decide (l[posM l x]? = some x) from rfl)
  have HP := Lib.hid (fun j h1 h2 h3 => posM_eq (x := x) (l := l) (j := j) h1 h2 h3)
  generalize isM l x = R at *
  generalize posM l x = p at *
  obtain ⟨len, hlen⟩ : ∃ n, l.length = n := ⟨_, rfl⟩
  rw [hlen] at hl ⊢
  have HL := Lib.hid hlen
  clear hlen hA
  go_enter Tryd.func74, Tryd.ntmps74
  go_wp2_with fail
  go_loopw [6] (fun i wr => ∃ j : Nat, j ≤ len ∧ i = .int .i64 (j : Int) ∧ (∀ i (h : i < l.length), i < j → l[i] < x) ∧ Ext w wr) (fun i _ => len - (intOf i).toNat)
  case atStart => exact ⟨0, Nat.zero_le _, rfl, fun i h h' => by omega, Below.refl _ _⟩
  case round =>
    obtain ⟨j, hj, rfl, hlo, hEr⟩ := hrel
    have HLO := Lib.hid hlo
    have HER := Lib.hid hEr
    clear hlo hEr
    by_cases hlt : j < len
    · have hjl : j < l.length := by rw [HL.out]; exact hlt
      obtain ⟨b, off, ha, hc0⟩ := HAA.out wr HER.out j hjl
      subst ha
      have hi0 : (0 : Int) ≤ (j : Int) := by omega
      have hi1 : (j : Int) < (len : Int) := by omega
      have HS := Lib.hid (fun (h : l[j] < x) => show ∀ i (h : i < l.length), i < j + 1 → l[i] < x from fun i hi h' => by
        by_cases e : i = j
        · subst e; exact h
        · exact HLO.out i hi (by omega))
      have HE := Lib.hid (show ¬ l[j] < x → p = j from fun h => HP.out j (by rw [HL.out]; omega) HLO.out (fun _ => by omega))
      have HG := Lib.hid (fun (e : p = j) => show R = decide (l[j] = x) by rw [HI.out, e, List.getElem?_eq_getElem hjl]; simp)
      generalize l[j] = y at *
      by_cases hxy : y < x
      · have g1 : decide (y < x) = true := by simpa using hxy
        have HS1 := Lib.hid (HS.out hxy)
        clear hxy
        go_wp2_with fail
        exact ⟨⟨j + 1, by omega, by go_num, HS1.out, HER.out⟩, by simp [intOf]; omega⟩
      · have g1 : decide (y < x) = false := by simpa using hxy
        have hp := HE.out hxy
        have HRv := Lib.hid (HG.out hp)
        have g2 : (y == x) = decide (y = x) := by rw [Bool.eq_iff_iff]; simp
        have HPJ := Lib.hid hp
        clear hxy hp
        generalize decide (y = x) = bb at *
        go_wp2_with fail
        refine wp_region_still_lit (by kernel_rfl) (by kernel_rfl) ?_
        refine Cx.out ?_
        iterate 15 (refine wpStill_stepC (fun K hK => ?_); go_simp; refine hK _ ?_; clear hK K)
        refine ⟨wpStill_nil ?_⟩
        go_wp2
        go_ret2
        obtain rfl := HPJ.out
        obtain rfl := HRv.out
        exact ⟨rfl, Ext.drewN' (n := 1) HER.out⟩
    · have hjl : len = j := by omega
      subst hjl
      have HPJ := Lib.hid (HP.out len (by rw [HL.out]; exact Nat.le_refl _) HLO.out (fun h => by rw [HL.out] at h; omega))
      have HRv := Lib.hid (show R = false by rw [HI.out, HPJ.out, List.getElem?_eq_none (by rw [HL.out]; exact Nat.le_refl _)]; rfl)
      go_wp2_with fail
      refine wp_region_still_lit (by kernel_rfl) (by kernel_rfl) ?_
      refine Cx.out ?_
      iterate 15 (refine wpStill_stepC (fun K hK => ?_); go_simp; refine hK _ ?_; clear hK K)
      refine ⟨wpStill_nil ?_⟩
      go_wp2
      go_ret2
      obtain rfl := HPJ.out
      obtain rfl := HRv.out
      exact ⟨rfl, Ext.drewN' (n := 1) HER.out⟩
set_option maxRecDepth 100000 in
set_option maxHeartbeats 4000000 in
/-- a method of a model with one element -/
theorem refCell_any (k z v m arg : Int) (w : World) (hk : k = 1 ∨ k = 2 ∨ k = 6) (hm : m = 1 ∨ m = 2) (hv : inM v = true) (ha : inM arg = true) (hv6 : k = 6 → v = 0 ∨ v = 1) :
    Calls Tryd.prog 57 #[.agg #[.int .i64 k, .int .i64 z], .int .i64 v, .int .i64 m, .int .i64 arg] w (ApP w none [v] (apM k z [v] m arg)) := by
  have HX := Lib.hid (ext_allocN w (.cells #[.int .i64 k, .int .i64 z] 23))
  have c0 := mdb0 w k z
  have hb1 : -1099511627776 ≤ v ∧ v ≤ 1099511627776 := by unfold inM at hv; exact of_decide_eq_true hv
  have hb2 : -1099511627776 ≤ arg ∧ arg ≤ 1099511627776 := by unfold inM at ha; exact of_decide_eq_true ha
  obtain ⟨hb1, hb1'⟩ := hb1
  obtain ⟨hb2, hb2'⟩ := hb2
  have hsz : (w.alloc (.cells #[.int .i64 k, .int .i64 z] 23)).heap.size = w.heap.size + 1 := by simp
  have HAL := Lib.hid (fun (W : World) (hW : Ext (w.alloc (.cells #[.int .i64 k, .int .i64 z] 23)) W) (y : Int) (r e : Int) => show ApP w none [v] ([y], r, e) (.returned (.tuple #[.slice (some ⟨W.heap.size, 0, none⟩) 1 1, .int .i64 r, .int .i64 e])) (W.alloc (.cells #[.int .i64 y] 3)) from
    ⟨_, _, rfl, ints_lit1 W y _, Nat.le_refl _, Ext.trans (Ext.trans HX.out hW) (ext_allocN _ _), Frm.lit (Nat.le_trans HX.out.size hW.size)⟩)
  have HNO := Lib.hid (fun (W : World) (hW : Ext (w.alloc (.cells #[.int .i64 k, .int .i64 z] 23)) W) (r e : Int) => show ApP w none [v] ([], r, e) (.returned (.tuple #[.slice none 0 0, .int .i64 r, .int .i64 e])) W from
    ⟨_, _, rfl, IntsAt.nil, Nat.le_refl _, Ext.trans HX.out hW, Frm.none⟩)
  have hkn : knM k m = true := by unfold knM; rcases hm with rfl | rfl <;> simp
  have HR := Lib.hid (show apM k z [v] m arg = (if k = 1 then (if m = 1 then ([v], v, 0) else ([arg], 0, 0)) else if k = 2 then (if m = 1 then ([v], v, 0) else if inM (v + arg) then ([v + arg], v, 0) else ([], 0, 14)) else (if m = 1 then (if v = 0 then ([1], 0, 0) else ([], 0, 17)) else (if v = 1 then ([0], 0, 0) else ([], 0, 17)))) by
    unfold apM
    rw [if_neg (by simp [hkn]), if_neg (by simp [ha])]
    rcases hk with rfl | rfl | rfl <;> rfl)
  generalize apM k z [v] m arg = Z at *
  clear hv ha hkn
  rcases hk with rfl | rfl | rfl
  · rcases hm with rfl | rfl
    · have HZ := Lib.hid (show Z = ([v], v, 0) by rw [HR.out]; rfl)
      clear HR hv6
      go_enter Tryd.func57, Tryd.ntmps57
      go_wp2
      go_ret3
      obtain rfl := HZ.out
      have := HAL.out _ (Below.refl _ _) v v 0
      rw [hsz] at this
      exact this
    · have HZ := Lib.hid (show Z = ([arg], 0, 0) by rw [HR.out]; rfl)
      clear HR hv6
      go_enter Tryd.func57, Tryd.ntmps57
      go_wp2
      go_ret3
      obtain rfl := HZ.out
      have := HAL.out _ (Below.refl _ _) arg 0 0
      rw [hsz] at this
      exact this
  · rcases hm with rfl | rfl
    · have HZ := Lib.hid (show Z = ([v], v, 0) by rw [HR.out]; rfl)
      clear HR hv6
      go_enter Tryd.func57, Tryd.ntmps57
      go_wp2
      go_ret3
      obtain rfl := HZ.out
      have := HAL.out _ (Below.refl _ _) v v 0
      rw [hsz] at this
      exact this
    · have C := Lib.hid (fun W => refNumber_any (v + arg) W)
      cases hq : inM (v + arg) with
      | true =>
        have HZ := Lib.hid (show Z = ([v + arg], v, 0) by rw [HR.out]; simp [hq])
        rw [hq] at C
        clear HR hv6 hq
        go_enter Tryd.func57, Tryd.ntmps57
        go_wp2_with fail
        refine (C.out _).mono ?_
        rintro e w2 ⟨rfl, hw2⟩
        subst hw2
        go_wp2
        go_ret3
        obtain rfl := HZ.out
        have := HAL.out _ (Below.refl _ _) (v + arg) v 0
        rw [hsz] at this
        exact this
      | false =>
        have HZ := Lib.hid (show Z = ([], 0, 14) by rw [HR.out]; simp [hq])
        rw [hq] at C
        clear HR hv6 hq
        go_enter Tryd.func57, Tryd.ntmps57
        go_wp2_with fail
        refine (C.out _).mono ?_
        rintro e w2 ⟨rfl, hw2⟩
        subst hw2
        go_wp2
        go_ret3
        obtain rfl := HZ.out
        exact HNO.out _ (Below.refl _ _) 0 14
  · have hv6 := hv6 rfl
    rcases hv6 with rfl | rfl
    all_goals
      rcases hm with rfl | rfl
      all_goals
        first
        | have HZ := Lib.hid (show Z = ([1], 0, 0) by rw [HR.out]; rfl)
        | have HZ := Lib.hid (show Z = ([0], 0, 0) by rw [HR.out]; rfl)
        | have HZ := Lib.hid (show Z = ([], 0, 17) by rw [HR.out]; rfl)
        clear HR
        go_enter Tryd.func57, Tryd.ntmps57
        go_wp2
        go_ret3
        obtain rfl := HZ.out
        first
        | exact HNO.out _ (Below.refl _ _) 0 17
        | (have := HAL.out _ (Below.refl _ _) 1 0 0; rw [hsz] at this; exact this)
        | (have := HAL.out _ (Below.refl _ _) 0 0 0; rw [hsz] at this; exact this)
end Go.Proofs.YtmbkjccckmlacaaDoor

namespace Go.Proofs.YtmbkjccckmlacaaDoor
open Go.RowKit
set_option linter.unusedVariables false
set_option linter.unusedSimpArgs false

theorem infoInt7 : (Tryd.prog.info? 3).map (fun i => (i.zero, i.size, i.bytes)) = some (some (.int .i64 0), 1, 8) := by kernel_rfl
theorem int_app_none (W : World) (g n c : Nat) : (Builtin.append_ #[27, 27] 27 #[.slice (some ⟨g, 0, none⟩) n n, .slice none 0 c]).run Tryd.prog W = .ok (.slice (some ⟨g, 0, none⟩) n n) W := by
  obtain ⟨i0, hi, hz0, hz1, hz2⟩ := info_parts infoInt7
  simp [Builtin.append_, run_underlying Tryd.underlying27, sizeOf, typeInfo, hi, Builtin.lenOf, Builtin.firstCells, storeCells, Result.andThen]
/-- append to a slice that is full -/
theorem int_app_full (W : World) (g c : Nat) (x : Option Addr) (l ml : List Int) (hg : W.heap[g]? = some (.cells (l.map (Value.int .i64)).toArray 3 (0, 0))) (hx : IntsAt W x ml) (hl : l.length ≤ 1000) (hm : ml.length ≤ 1000) :
    ∃ p cap W', (Builtin.append_ #[27, 27] 27 #[.slice (some ⟨g, 0, none⟩) l.length l.length, .slice x ml.length c]).run Tryd.prog W = .ok (.slice p (l ++ ml).length cap) W' ∧ IntsAt W' p (l ++ ml) ∧ Ext W W' := by
  obtain ⟨i0, hi, hz0, hz1, hz2⟩ := info_parts infoInt7
  have hown : W.ownsRow 0 3 1 (.slice (some ⟨g, 0, none⟩) l.length l.length) l.length (l.map (Value.int .i64)) :=
    ⟨by simp, .inr ⟨g, l.length, _, rfl, Nat.zero_le _, hg, Nat.le_refl _, by unfold maxLen; omega, by simp, by simp [List.take_of_length_le]⟩⟩
  by_cases h0 : ml = []
  · subst h0
    refine ⟨some ⟨g, 0, none⟩, l.length, W, ?_, fun i hi => ⟨g, 0, rfl, ?_⟩, Below.refl _ _⟩
    · rw [List.append_nil]
      cases x with
      | none => exact int_app_none W g l.length c
      | some a =>
        have h1 := run_append_room (P := Tryd.prog) W 27 27 3 i0 Tryd.underlying27 hi g l.length l.length _ hg a 0 c [] (by simp) (fun j u hu => by simp at hu) (fun u hu => by cases hu) (by omega) (by rw [hz1]; simp)
        have e : (List.take (l.length * i0.size) (List.map (Value.int .i64) l).toArray.toList ++ [] ++ List.drop (l.length * i0.size + ([] : List Value).length) (List.map (Value.int .i64) l).toArray.toList).toArray = (l.map (Value.int .i64)).toArray := by
          rw [List.append_nil, List.length_nil, Nat.add_zero, List.take_append_drop]
        have e0 : l.length + 0 = l.length := Nat.add_zero _
        have e1 := setRow_self W g _ _ _ hg
        rw [e, e1, e0] at h1
        exact h1
    · rw [Nat.zero_add]
      have hi' : i < l.length := by simpa using hi
      refine cell_of hg ?_
      simp [hi']
  · obtain ⟨b, off, hxa, _⟩ := hx 0 (List.length_pos_iff.2 h0)
    have hnews : ∀ j u, (ml.map (Value.int .i64))[j]? = some u → W.cell? ((⟨b, off, none⟩ : Addr).add j) = some u := by
      intro j u hu
      have hj : j < ml.length := by have := (List.getElem?_eq_some_iff.1 hu).1; simpa using this
      obtain ⟨b', off', e', hc⟩ := hx j hj
      rw [hxa] at e'
      cases e'
      have e : (⟨b, off, none⟩ : Addr).add j = ⟨b, off + j, none⟩ := by unfold Addr.add; split <;> simp_all
      rw [e, hc]
      simpa [hj] using hu
    have hpos : 0 < ml.length := List.length_pos_iff.2 h0
    have hr2 := run_append_grow (P := Tryd.prog) W 27 27 3 i0 _ Tryd.underlying27 hi hz0 ⟨g, 0, none⟩ l.length l.length (l.map (Value.int .i64)) (by rw [hz1]; simp) (World.ownsRow.cells (g := g) hown rfl) ⟨b, off, none⟩ ml.length c (ml.map (Value.int .i64)) (by rw [hz1]; simp) hnews (by omega) (by omega) (growslice_fits (by omega) (by rw [hz2]; omega))
    rw [hxa]
    refine ⟨_, _, _, by rw [List.length_append]; exact hr2, fun i hi => ⟨_, _, rfl, ?_⟩, ?_⟩
    · rw [Nat.zero_add]
      refine cell_of (alloc_here _ _) ?_
      have hi' : i < (l ++ ml).length := hi
      have e9 : (l.map (Value.int .i64)).toArray ++ (ml.map (Value.int .i64)).toArray = ((l ++ ml).map (Value.int .i64)).toArray := by simp
      have h9 : i < ((l ++ ml).map (Value.int .i64)).toArray.size := by simpa using hi'
      rw [e9, Array.getElem?_append_left h9, List.getElem?_toArray, List.getElem?_map, List.getElem?_eq_getElem hi']
      rfl
    · exact (Below.refl _ W).drew.alloc (Nat.le_refl _) _
theorem appE_run (base : Nat) (W : World) (g c : Nat) (x : Option Addr) (ml : List Int) (hg : W.heap[g]? = some (.cells #[] 3 (0, 0))) (hb : base ≤ g) (hx : IntsAt W x ml) (hm : ml.length ≤ 1000) :
    ∃ v' W', (Builtin.append_ #[27, 27] 27 #[.slice (some ⟨g, 0, none⟩) 0 0, .slice x ml.length c]).run Tryd.prog W = .ok v' W' ∧ RowI base v' ml W' ∧ Ext W W' := by
  have hgl := lt_of_block hg
  have hrow : RowI base (.slice (some ⟨g, 0, none⟩) 0 0) [] W := ⟨by simp, .inr ⟨g, 0, #[], rfl, hb, hg, Nat.le_refl _, by unfold maxLen; omega, by simp, by simp⟩⟩
  cases x with
  | none =>
    obtain rfl : ml = [] := by
      cases ml with
      | nil => rfl
      | cons y t => obtain ⟨b, off, e, _⟩ := hx 0 (by simp); cases e
    exact ⟨_, _, int_app_none W g 0 c, hrow, Below.refl _ _⟩
  | some ad =>
    obtain ⟨p, cap, W', h1, -, h3⟩ := int_app_full W g c (some ad) [] ml hg hx (by simp) hm
    obtain ⟨i0, hi, hz0, hz1, hz2⟩ := info_parts infoI'
    obtain ⟨v', w', h4, h5, -, -⟩ := run_append_own_wide W base 27 27 3 i0 (.int .i64 0) 1 8 Tryd.underlying27 hi hz0 hz1 hz2 rfl (by decide) _ 0 [] hrow ad ml.length c (ml.map (Value.int .i64)) (by simp) (fun j u hu => by
      have hj : j < ml.length := by have := (List.getElem?_eq_some_iff.1 hu).1; simpa using this
      obtain ⟨b, off, e, hc⟩ := hx j hj
      cases e
      rw [show (⟨b, off, none⟩ : Addr).add j = ⟨b, off + j, none⟩ by unfold Addr.add; split <;> simp_all, hc]
      simp [hj] at hu
      rw [hu]) (by simp [Value.oneCell']) (by unfold maxLen; omega) (by omega) (by omega)
    have h1' : (Builtin.append_ #[27, 27] 27 #[.slice (some ⟨g, 0, none⟩) 0 0, .slice (some ad) ml.length c]).run Tryd.prog W = .ok (.slice p ([] ++ ml).length cap) W' := h1
    rw [h4] at h1'
    injection h1' with e1 e2
    subst e2
    refine ⟨v', w', h4, ?_, h3⟩
    unfold RowI
    simpa using h5
section
variable {ops : Array Oper} {rest : List Oper} {o : Oper} {a : Act} {Q : Exit → Act → World → Prop}
/-- append of a row of integers that lies anywhere -/
theorem wp_appF (hgd : o.guard = none) (s x : Operand) (ho : o.op = .call { callee := .builtin .append, args := #[s, x], argTypes := #[27, 27] })
    (base : Nat) (v : Value) (l : List Int) (hs : a.eval s = v) (W : World) (h : RowI base v l W) (ml : List Int) (y : Option Addr) (c : Nat) (hx : a.eval x = .slice y ml.length c) (hI : IntsAt W y ml) (hlen : l.length ≤ 1000000000) (hm : ml.length ≤ 1000000000) (hbase : base ≤ W.heap.size)
    (hK : ∀ v' w', RowI base v' (l ++ ml) w' → Below base W w' → W.heap.size ≤ w'.heap.size → (∀ j, j < W.heap.size → v.ownBlock ≠ some j → w'.heap[j]? = W.heap[j]?) → (v'.ownBlock = v.ownBlock ∨ v'.ownBlock = some W.heap.size) → wpList Tryd.prog ops Q rest (a.put o.dst v') w') : wpList Tryd.prog ops Q (o :: rest) a W := by
  obtain ⟨i0, hi, hz0, hz1, hz2⟩ := info_parts infoI'
  cases y with
  | none =>
    obtain rfl : ml = [] := by
      cases ml with
      | nil => rfl
      | cons x ml => obtain ⟨b, off, e, _⟩ := hI 0 (by simp); cases e
    have hrun : (Builtin.append_ #[27, 27] o.type #[v, .slice none 0 c]).run Tryd.prog W = .ok v W := by
      rcases h.2 with ⟨rfl, h0⟩ | ⟨g, cap, cur, rfl, _, _, hn, _⟩
      · simp [Builtin.append_, run_underlying Tryd.underlying27, sizeOf, typeInfo, hi, Builtin.lenOf, Builtin.firstCells, storeCells, Result.andThen]
      · simp [Builtin.append_, run_underlying Tryd.underlying27, sizeOf, typeInfo, hi, Builtin.lenOf, Builtin.firstCells, storeCells, Result.andThen, hn]
    refine wpList_plain hgd fun K hK' => ?_
    unfold Oper.wp execOp
    simp [ho, resolve, invoke, builtin, hs, hx, hrun, Result.andThen]
    exact hK' _ _ (hK v W (by simpa using h) (Below.refl _ _) (Nat.le_refl _) (fun _ _ _ => rfl) (.inl rfl))
  | some ad =>
    refine wpList_append_own_at _ hgd s x 27 ho base 3 i0 (.int .i64 0) 1 8 Tryd.underlying27 hi hz0 hz1 hz2 rfl (by decide) v l.length (l.map (Value.int .i64)) hs h ad ml.length c (ml.map (Value.int .i64)) hx (by simp) (fun j u hu => ?_) (by simp [Value.oneCell']) (by unfold maxLen; omega) (by omega) hbase ?_
    · have hj : j < ml.length := by have := (List.getElem?_eq_some_iff.1 hu).1; simpa using this
      obtain ⟨b, off, e, hc⟩ := hI j hj
      cases e
      rw [show (⟨b, off, none⟩ : Addr).add j = ⟨b, off + j, none⟩ by unfold Addr.add; split <;> simp_all, hc]
      simp [hj] at hu
      rw [hu]
    · intro v' w' hown hg _ hat
      refine hK v' w' ?_ ((Below.refl base W).grown hg hbase (fun k e => (World.ownsRow.lt h k e).1)) hg.size (fun j hj hne => hg.block j hj (fun e => hne e.symm)) hat
      unfold RowI
      simpa using hown
end
theorem GoesG.app2 {P : Program} {l : List Oper} {R : World → World → Prop} {Φ : Nat → (Nat → Value) → World → Prop} {i : Nat} {o : Oper} {a' : Act} {W W' : World} {Q : Exit → Act → World → Prop} (hg : o.guard = none) (s x : Operand) (t : TypeId) (ho : o.op = .call { callee := .builtin .append, args := #[s, x], argTypes := #[t, t] })
    (v v' sl : Value) (hs : a'.eval s = v) (hx : a'.eval x = sl) (hr : (Builtin.append_ #[t, t] o.type #[v, sl]).run P W = .ok v' W') (hR : R W W')
    (hΦ : ∀ s : Nat → Value, (o.dst.isSome = true → s i = v') → (∀ k, k ≠ i → ancB l l.length i k = true → s k = sv l a' k) → Φ i s W') : GoesG P l R Φ i o a' W Q :=
  GoesG.value v' hg (by simp only [execOp, ho, resolve, invoke, builtin, Sem.run_bind, Sem.run_pure, Result.andThen_ok, List.map_toArray, List.map_cons, List.map_nil, hs, hx, hr]) hR hΦ
end Go.Proofs.YtmbkjccckmlacaaDoor

namespace Go.Proofs.YtmbkjccckmlacaaDoor
open Go.RowKit
set_option linter.unusedVariables false
set_option linter.unusedSimpArgs false

theorem IntsAt.shift {W : World} {b of : Nat} {l : List Int} {m : Nat} (h : IntsAt W (some ⟨b, of, none⟩) l) : IntsAt W (some ⟨b, of + m, none⟩) (l.drop m) := fun i hi => by
  obtain ⟨b', o', e, hc⟩ := h (m + i) (by rw [List.length_drop] at hi; omega)
  cases e
  refine ⟨b, of + m, rfl, ?_⟩
  rw [List.getElem_drop, Nat.add_assoc]; exact hc
theorem IntsAt.pre {W : World} {a : Option Addr} {l : List Int} (h : IntsAt W a l) (k : Nat) : IntsAt W a (l.take k) := fun i hi => by
  obtain ⟨b, off, e, hc⟩ := h i (by rw [List.length_take] at hi; omega)
  exact ⟨b, off, e, by rw [List.getElem_take]; exact hc⟩
theorem rowP {w W : World} {a0 : Option Addr} {l m : List Int} {v : Value} {r e : Int} (h : RowI w.heap.size v m W) (hE : Ext w W) : ApP w a0 l (m, r, e) (.returned (.tuple #[v, .int .i64 r, .int .i64 e])) W := by
  obtain ⟨x, c, rfl, h1, h2, h3⟩ := h.look
  exact ⟨x, c, rfl, h1, h2, hE, .inl h3⟩
set_option maxRecDepth 100000 in
set_option maxHeartbeats 4000000 in
theorem refList_any (k z m arg : Int) (l : List Int) (a : Option Addr) (c : Nat) (w : World) (hk : k = 3 ∨ k = 4) (hm : m = 1 ∨ m = 2) (hz : 0 ≤ z) (hs : stR k z l = true) (ha : inM arg = true) (hc : l.length ≤ c) (hA : IntsAt w a l) :
    Calls Tryd.prog 56 #[.agg #[.int .i64 k, .int .i64 z], .slice a l.length c, .int .i64 m, .int .i64 arg] w (ApP w a l (apM k z l m arg)) := by
  have hl100 := st_len hs
  have hlz : z ≤ 0 ∨ (l.length : Int) ≤ z := by
    unfold stR at hs
    rw [if_neg (by omega), if_neg (by omega)] at hs
    simp only [Bool.and_eq_true, decide_eq_true_eq] at hs
    exact hs.2.1.2
  have HR := Lib.hid (show apM k z l m arg = if m = 1 then insM z l l.length arg else if k = 3 then remM l 0 else remM l (l.length - 1) by
    have hkn : knM k m = true := by unfold knM; rcases hm with rfl | rfl <;> simp
    unfold apM
    rw [if_neg (by simp [hkn]), if_neg (by simp [ha])]
    rcases hk with rfl | rfl
    · rw [if_neg (by omega), if_neg (by omega), if_pos rfl]
      by_cases h1 : m = 1
      · rw [if_pos h1, if_pos h1]
      · rw [if_neg h1, if_neg h1, if_pos rfl]
    · rw [if_neg (by omega), if_neg (by omega), if_neg (by omega), if_pos rfl]
      by_cases h1 : m = 1
      · rw [if_pos h1, if_pos h1]
      · rw [if_neg h1, if_neg h1, if_neg (by omega)])
  have HAA := Lib.hid (fun W (hW : Ext w W) => hA.ext hW)
  obtain ⟨wk, hwk⟩ : ∃ W, W = w.alloc (.cells #[.int .i64 k, .int .i64 z] 23) := ⟨_, rfl⟩
  have hwk' := hwk.symm
  have HXS := Lib.hid (show Ext w wk by rw [hwk]; exact ext_allocN _ _)
  have c0 := mdb0 w k z
  have c1 := mdb1 w k z
  rw [hwk'] at c0 c1
  generalize apM k z l m arg = Z at *
  clear hs ha hA
  rcases hm with rfl | rfl
  · have HZ := Lib.hid (show Z = insM z l l.length arg by rw [HR.out]; rfl)
    clear HR
    by_cases h1 : 0 < z ∧ z ≤ (l.length : Int)
    · have HZ2 := Lib.hid (show Z = (l, 0, 0) by rw [HZ.out]; unfold insM; rw [if_pos h1])
      have g1 : decide (0 < z) = true := by simpa using h1.1
      have g2 : ((l.length : Int) == z) = true := by simp; omega
      obtain ⟨h1, h2⟩ := h1
      clear HZ hwk h1 h2 hlz
      obtain ⟨len, hlen⟩ : ∃ n, l.length = n := ⟨_, rfl⟩
      have HL := Lib.hid hlen
      rw [hlen] at g2 hc hl100 ⊢
      clear hlen
      go_enter Tryd.func56, Tryd.ntmps56
      go_wp2_with fail
      try rw [hwk']
      go_wp2
      go_ret3
      obtain rfl := HZ2.out
      exact ⟨a, c, by rw [HL.out]; rfl, HAA.out _ HXS.out, by rw [HL.out]; exact hc, HXS.out, Frm.same⟩
    · have hgz : (decide (0 < z) = false) ∨ (decide (0 < z) = true ∧ ((l.length : Int) == z) = false) := by
        by_cases h0 : 0 < z
        · exact .inr ⟨by simpa using h0, by simp; omega⟩
        · exact .inl (by simpa using h0)
      by_cases h100 : 100 ≤ l.length
      · have HZ2 := Lib.hid (show Z = ([], 0, 4) by rw [HZ.out]; unfold insM; rw [if_neg h1, if_pos h100])
        have g3 : ((l.length : Int) == 100) = true := by simp; omega
        clear HZ hwk h1 h100 hlz
        generalize l.length = len at *
        rcases hgz with g1 | ⟨g1, g2⟩
        all_goals
          go_enter Tryd.func56, Tryd.ntmps56
          go_wp2_with fail
          try rw [hwk']
          go_wp2
          go_ret3
          obtain rfl := HZ2.out
          exact ⟨_, _, rfl, IntsAt.nil, Nat.le_refl _, HXS.out, Frm.none⟩
      · have HZ2 := Lib.hid (show Z = (l ++ [arg], 1, 0) by rw [HZ.out]; unfold insM; rw [if_neg h1, if_neg h100]; simp)
        have g3 : ((l.length : Int) == 100) = false := by simp; omega
        clear HZ hwk h1 h100 hlz
        obtain ⟨len, hlen⟩ : ∃ n, l.length = n := ⟨_, rfl⟩
        have HL := Lib.hid hlen
        rw [hlen] at g3 hgz hc hl100 ⊢
        clear hlen
        subst hwk'
        have HXE := Lib.hid (Ext.trans HXS.out (ext_allocN _ (.cells #[] 3)))
        have HRE := Lib.hid (show RowI w.heap.size (.slice (some ⟨w.heap.size + 1, 0, none⟩) 0 0) [] ((w.alloc (.cells #[.int .i64 k, .int .i64 z] 23)).alloc (.cells #[] 3)) from by
          have := RowI.empty (w.alloc (.cells #[.int .i64 k, .int .i64 z] 23)) w.heap.size HXS.out.size
          rw [World.size_alloc] at this
          exact this)
        have HIL := Lib.hid (HAA.out _ HXE.out)
        have HBE := Lib.hid HXE.out.size
        have tok1 : True := trivial
        rcases hgz with g1 | ⟨g1, g2⟩
        all_goals
          go_enter Tryd.func56, Tryd.ntmps56
          go_wp2_with (first | (at_builtin; have _t := tok1; clear tok1 _t; go_loud (refine wp_appF rfl _ _ (by rfl) w.heap.size _ [] (by rfl) _ HRE.out l _ _ (by rw [HL.out]; rfl) HIL.out (by simp) (by rw [HL.out]; omega) HBE.out ?_); intro v' w3 hR3 hB3 hs3 hk3 ho3; have HR3 := Lib.hid (show RowI w.heap.size v' l w3 from hR3); have HE3 := Lib.hid (show Ext w w3 from Below.trans HXE.out hB3); have HB3 := Lib.hid HE3.out.size; have HLO := Lib.hid (show l.length ≤ 10000000000 by rw [HL.out]; omega); clear hR3 hB3 hs3 hk3 ho3; have tok2 : True := trivial) | (at_builtin; have _t := tok2; clear tok2 _t; go_loud (refine wp_appI rfl _ _ (by rfl) w.heap.size _ _ (by rfl) _ HR3.out arg (by rfl) HLO.out HB3.out ?_); intro v2 w4 hR4 hB4; have HR4 := Lib.hid hR4; have HE4 := Lib.hid (show Ext w w4 from Below.trans HE3.out hB4); clear hR4 hB4))
          go_ret3
          obtain rfl := HZ2.out
          exact rowP HR4.out HE4.out
  · have HZ := Lib.hid (show Z = if k = 3 then remM l 0 else remM l (l.length - 1) by rw [HR.out]; rfl)
    clear HR
    cases l with
    | nil =>
      have HZ2 := Lib.hid (show Z = ([], -1, 0) by rw [HZ.out]; unfold remM; simp)
      clear HZ hwk hlz
      simp only [List.length_nil] at *
      go_enter Tryd.func56, Tryd.ntmps56
      go_wp2_with fail
      try rw [hwk']
      go_wp2
      go_ret3
      obtain rfl := HZ2.out
      exact ⟨a, c, rfl, IntsAt.nil, Nat.zero_le _, HXS.out, Frm.same⟩
    | cons y t =>
      obtain ⟨b, of, hab, -⟩ := HAA.out w (Below.refl _ _) 0 (by simp)
      subst hab
      obtain ⟨n, hn⟩ : ∃ n, t.length = n := ⟨_, rfl⟩
      have HN := Lib.hid hn
      have HNL := Lib.hid (show (y :: t).length = n + 1 by rw [List.length_cons, hn])
      rw [HNL.out] at hc hl100 ⊢
      clear hlz hn hwk
      have g0 : (((n + 1 : Nat) : Int) == 0) = false := by simp; omega
      have g0' : ((n : Int) + 1 == 0) = false := by simp; omega
      have hc1 : (1 : Int) ≤ (c : Int) := by omega
      have hn1 : (n : Int) + 1 ≤ (c : Int) := by omega
      have hn0 : (0 : Int) ≤ (n : Int) := by omega
      have hn2 : (1 : Int) ≤ (n : Int) + 1 := by omega
      have hn3 : ¬ ((n : Int) + 1 ≤ (n : Int)) := by omega
      have hn4 : (n : Int) ≤ (c : Int) := by omega
      have hwn : IntKind.i64.wrap (n : Int) = (n : Int) := wrap_nat n (by omega)
      rcases hk with rfl | rfl
      · obtain ⟨tl, htl⟩ : ∃ tl, tl = t := ⟨_, rfl⟩
        have HZ2 := Lib.hid (show Z = (tl, y, 0) by rw [HZ.out, htl]; unfold remM; simp)
        obtain ⟨p1, hp1⟩ : ∃ p1 : Option Addr, (if c = 1 then some (⟨b, of, none⟩ : Addr) else some ⟨b, of + 1, none⟩) = p1 := ⟨_, rfl⟩
        have HTI := Lib.hid (fun W (hW : Ext w W) => show IntsAt W p1 tl from by
          rw [htl, ← hp1]
          by_cases h1 : c = 1
          · have : t = [] := List.eq_nil_of_length_eq_zero (by rw [HN.out]; omega)
            rw [this]; exact IntsAt.nil
          · rw [if_neg h1]
            have := (HAA.out W hW).shift (m := 1)
            simpa using this)
        have HTN := Lib.hid (show tl.length = n by rw [htl]; exact HN.out)
        have HTL := Lib.hid (show tl.length ≤ 1000 by rw [HTN.out]; omega)
        have HLD := Lib.hid (fun W (hW : Ext w W) => show W.cell? ⟨b, of, none⟩ = some (.int .i64 y) from by
          obtain ⟨b', o', e', hc'⟩ := HAA.out W hW 0 (by simp)
          cases e'
          exact hc')
        clear htl HZ
        go_enter Tryd.func56, Tryd.ntmps56
        go_wp2_with fail
        try rw [hwk']
        go_wp2_with fail
        refine wp_region_tail (l1 := [_, _, _, _, _, _, _, _, _]) (l2 := [_]) (by kernel_rfl) Ext (fun W => Below.refl _ W) (fun W => show Below W.heap.size W { W with drawn := W.drawn + 1 } from ⟨rfl, rfl, rfl, Nat.le_refl _, fun _ _ => rfl⟩) Ext.trans
          (fun i s W => match i with
            | 0 => ∃ g, s 0 = .slice (some ⟨g, 0, none⟩) 0 0 ∧ W.heap[g]? = some (.cells #[] 3 (0, 0)) ∧ w.heap.size ≤ g
            | 1 => s 1 = .slice (some ⟨b, of, none⟩) (n + 1) c
            | 2 => s 2 = .slice p1 n (c - 1)
            | 3 => RowI w.heap.size (s 3) tl W
            | 4 => s 4 = .slice (some ⟨b, of, none⟩) (n + 1) c
            | 5 => s 5 = .pointer (some ⟨b, of, none⟩)
            | 6 => s 6 = .int .i64 y
            | 7 => RowI w.heap.size (s 7) tl W
            | 8 => s 8 = .int .i64 y
            | _ => True)
          (fun i => [i])
          (by
            intro i s s' W W' h hs hE
            have hs := hs i (by simp)
            match i, h, hs with
            | 0, ⟨g, h, h1, h2⟩, hs => exact ⟨g, hs.trans h, (hE.below.block _ (lt_of_block h1)).trans h1, h2⟩
            | 1, h, hs => exact hs.trans h
            | 2, h, hs => exact hs.trans h
            | 3, h, hs => exact (by rw [hs]; exact RowI.ext h hE)
            | 4, h, hs => exact hs.trans h
            | 5, h, hs => exact hs.trans h
            | 6, h, hs => exact hs.trans h
            | 7, h, hs => exact (by rw [hs]; exact RowI.ext h hE)
            | 8, h, hs => exact hs.trans h
            | i + 9, h, hs => exact trivial)
          (by kernel_rfl) (by kernel_rfl) (by kernel_rfl) 60 rfl (by kernel_rfl) (by kernel_rfl) ?_ ?_
        · intro i op ho a' W hA
          have hld := HLD.out W (Ext.trans HXS.out hA.rel)
          match i, ho with
          | 0, ho =>
            obtain rfl := Option.some.inj ho
            refine GoesG.value (W' := W.alloc (.cells #[] 3)) (.slice (some ⟨W.heap.size, 0, none⟩) 0 0) rfl ?_ (ext_allocN _ _) (fun s g1 g2 => ⟨W.heap.size, g1 rfl, alloc_here _ _, Nat.le_trans HXS.out.size hA.rel.size⟩)
            simp only [execOp]
            simp [go_sem]
          | 1, ho =>
            obtain rfl := Option.some.inj ho
            have e1 : a'.eval (.tmp 1) = .slice (some ⟨b, of, none⟩) (n + 1) c := hA.keep 1 (by kernel_rfl)
            refine GoesG.value (.slice (some ⟨b, of, none⟩) (n + 1) c) rfl ?_ (Below.refl _ _) (fun s h1 h2 => h1 rfl)
            simp only [execOp, e1]
            simp [go_sem, hld, hc1, hn1, hn0, hn2, hp1]
          | 2, ho =>
            obtain rfl := Option.some.inj ho
            have e1 : a'.eval (.tmp 41) = .slice (some ⟨b, of, none⟩) (n + 1) c := (sv_dst (l := _) rfl).symm.trans (hA.new 1 (by decide) (by kernel_rfl))
            refine GoesG.value (.slice p1 n (c - 1)) rfl ?_ (Below.refl _ _) (fun s h1 h2 => h1 rfl)
            simp [Act.eval] at e1
            simp [execOp, go_sem, e1, hld, hc1, hn1, hn0, hn2, hp1]
          | 3, ho =>
            obtain rfl := Option.some.inj ho
            obtain ⟨g, e0, h1, h2⟩ := hA.new 0 (by decide) (by kernel_rfl)
            have e1 : a'.eval (.tmp 40) = .slice (some ⟨g, 0, none⟩) 0 0 := (sv_dst (l := _) rfl).symm.trans e0
            have e2 : a'.eval (.tmp 42) = .slice p1 n (c - 1) := (sv_dst (l := _) rfl).symm.trans (hA.new 2 (by decide) (by kernel_rfl))
            obtain ⟨v', W', hr, hrow, hE1⟩ := appE_run w.heap.size W g (c - 1) (p1) tl h1 h2 (HTI.out W (Ext.trans HXS.out hA.rel)) HTL.out
            rw [HTN.out] at hr
            exact GoesG.app2 rfl (.tmp 40) (.tmp 42) 27 rfl _ _ (.slice p1 n (c - 1)) e1 e2 hr hE1 (fun s h1 h2 => (by rw [h1 rfl]; exact hrow))
          | 4, ho =>
            obtain rfl := Option.some.inj ho
            have e1 : a'.eval (.tmp 1) = .slice (some ⟨b, of, none⟩) (n + 1) c := hA.keep 1 (by kernel_rfl)
            refine GoesG.value (.slice (some ⟨b, of, none⟩) (n + 1) c) rfl ?_ (Below.refl _ _) (fun s h1 h2 => h1 rfl)
            simp only [execOp, e1]
            simp [go_sem, hld, hc1, hn1, hn0, hn2, hp1]
          | 5, ho =>
            obtain rfl := Option.some.inj ho
            have e1 : a'.eval (.tmp 44) = .slice (some ⟨b, of, none⟩) (n + 1) c := (sv_dst (l := _) rfl).symm.trans (hA.new 4 (by decide) (by kernel_rfl))
            refine GoesG.value (.pointer (some ⟨b, of, none⟩)) rfl ?_ (Below.refl _ _) (fun s h1 h2 => h1 rfl)
            simp only [execOp, e1]
            simp [go_sem, hld, hc1, hn1, hn0, hn2, hp1]
          | 6, ho =>
            obtain rfl := Option.some.inj ho
            have e1 : a'.eval (.tmp 45) = .pointer (some ⟨b, of, none⟩) := (sv_dst (l := _) rfl).symm.trans (hA.new 5 (by decide) (by kernel_rfl))
            refine GoesG.value (.int .i64 y) rfl ?_ (Below.refl _ _) (fun s h1 h2 => h1 rfl)
            simp only [execOp, e1]
            simp [go_sem, hld, hc1, hn1, hn0, hn2, hp1]
          | 7, ho =>
            obtain rfl := Option.some.inj ho
            have h1 : RowI w.heap.size (sv _ a' 3) tl W := hA.new 3 (by decide) (by kernel_rfl)
            rw [sv_dst (l := _) (d := 43) rfl] at h1
            refine GoesG.value (a'.eval (.tmp 43)) rfl ?_ (Below.refl _ _) (fun s g1 g2 => ?_)
            · simp [execOp, go_sem]
            · rw [g1 rfl]; exact h1
          | 8, ho =>
            obtain rfl := Option.some.inj ho
            have e1 : a'.eval (.tmp 46) = .int .i64 y := (sv_dst (l := _) rfl).symm.trans (hA.new 6 (by decide) (by kernel_rfl))
            refine GoesG.value (.int .i64 y) rfl ?_ (Below.refl _ _) (fun s h1 h2 => h1 rfl)
            simp only [execOp, e1]
            simp [go_sem, hld, hc1, hn1, hn0, hn2, hp1]
          | i + 9, ho => cases ho
        · intro vs w4 hvs hG hΦ
          obtain ⟨y0, y1, y2, y3, y4, y5, y6, y7, y8, rfl⟩ : ∃ y0 y1 y2 y3 y4 y5 y6 y7 y8, vs = y0 :: y1 :: y2 :: y3 :: y4 :: y5 :: y6 :: y7 :: y8 :: [] := by
            match vs, hvs with
            | y0 :: y1 :: y2 :: y3 :: y4 :: y5 :: y6 :: y7 :: y8 :: [], _ => exact ⟨y0, y1, y2, y3, y4, y5, y6, y7, y8, rfl⟩
          have p0 : ∃ g, y0 = .slice (some ⟨g, 0, none⟩) 0 0 ∧ w4.heap[g]? = some (.cells #[] 3 (0, 0)) ∧ w.heap.size ≤ g := hΦ 0 (by decide)
          have e1 : y1 = .slice (some ⟨b, of, none⟩) (n + 1) c := hΦ 1 (by decide)
          subst e1
          have e2 : y2 = .slice p1 n (c - 1) := hΦ 2 (by decide)
          subst e2
          have p3 : RowI w.heap.size (y3) tl w4 := hΦ 3 (by decide)
          have e4 : y4 = .slice (some ⟨b, of, none⟩) (n + 1) c := hΦ 4 (by decide)
          subst e4
          have e5 : y5 = .pointer (some ⟨b, of, none⟩) := hΦ 5 (by decide)
          subst e5
          have e6 : y6 = .int .i64 y := hΦ 6 (by decide)
          subst e6
          have p7 : RowI w.heap.size (y7) tl w4 := hΦ 7 (by decide)
          have e8 : y8 = .int .i64 y := hΦ 8 (by decide)
          subst e8
          clear hΦ hvs
          simp only [putAll, Act.put, List.setIfInBounds_toArray, List.set_cons_succ, List.set_cons_zero]
          have HRW := Lib.hid (show RowI w.heap.size y7 tl w4 from p7)
          have HEW := Lib.hid (Ext.trans HXS.out (show Ext wk w4 from hG))
          clear p0 p3 p7 hG
          go_wp2
          go_ret3
          obtain rfl := HZ2.out
          exact rowP HRW.out HEW.out
      · obtain ⟨tl, htl⟩ : ∃ tl, tl = (y :: t).take n := ⟨_, rfl⟩
        have HNG := Lib.hid (show n < (y :: t).length by rw [HNL.out]; omega)
        obtain ⟨x, hx⟩ : ∃ x, (y :: t)[n]'HNG.out = x := ⟨_, rfl⟩
        have HZ2 := Lib.hid (show Z = (tl, x, 0) by
          rw [HZ.out, if_neg (by omega), HNL.out, Nat.add_sub_cancel, htl]
          unfold remM
          rw [if_neg (by simp), List.getElem?_eq_getElem HNG.out, hx]
          refine Prod.ext ?_ rfl
          rw [List.eraseIdx_eq_take_drop_succ, List.drop_of_length_le (by rw [HNL.out]; exact Nat.le_refl _), List.append_nil])
        have HTI := Lib.hid (fun W (hW : Ext w W) => show IntsAt W (some ⟨b, of, none⟩) tl from by rw [htl]; exact (HAA.out W hW).pre n)
        have HTN := Lib.hid (show tl.length = n by rw [htl, List.length_take, HNL.out]; omega)
        have HTL := Lib.hid (show tl.length ≤ 1000 by rw [HTN.out]; omega)
        have HLD := Lib.hid (fun W (hW : Ext w W) => show W.cell? ⟨b, of + n, none⟩ = some (.int .i64 x) from by
          obtain ⟨b', o', e', hc'⟩ := HAA.out W hW n HNG.out
          cases e'
          rw [hc', hx])
        clear htl HZ hx
        go_enter Tryd.func56, Tryd.ntmps56
        go_wp2_with fail
        try rw [hwk']
        go_wp2_with fail
        refine wp_region_tail (l1 := [_, _, _, _, _, _, _, _, _, _, _, _, _, _, _]) (l2 := [_]) (by kernel_rfl) Ext (fun W => Below.refl _ W) (fun W => show Below W.heap.size W { W with drawn := W.drawn + 1 } from ⟨rfl, rfl, rfl, Nat.le_refl _, fun _ _ => rfl⟩) Ext.trans
          (fun i s W => match i with
            | 0 => ∃ g, s 0 = .slice (some ⟨g, 0, none⟩) 0 0 ∧ W.heap[g]? = some (.cells #[] 3 (0, 0)) ∧ w.heap.size ≤ g
            | 1 => s 1 = .slice (some ⟨b, of, none⟩) (n + 1) c
            | 2 => s 2 = .slice (some ⟨b, of, none⟩) (n + 1) c
            | 3 => s 3 = .int .i64 ((n + 1) : Int)
            | 4 => s 4 = .int .i64 (n : Int)
            | 5 => s 5 = .slice (some ⟨b, of, none⟩) n c
            | 6 => RowI w.heap.size (s 6) tl W
            | 7 => s 7 = .slice (some ⟨b, of, none⟩) (n + 1) c
            | 8 => s 8 = .slice (some ⟨b, of, none⟩) (n + 1) c
            | 9 => s 9 = .int .i64 ((n + 1) : Int)
            | 10 => s 10 = .int .i64 (n : Int)
            | 11 => s 11 = .pointer (some ⟨b, of + n, none⟩)
            | 12 => s 12 = .int .i64 x
            | 13 => RowI w.heap.size (s 13) tl W
            | 14 => s 14 = .int .i64 x
            | _ => True)
          (fun i => [i])
          (by
            intro i s s' W W' h hs hE
            have hs := hs i (by simp)
            match i, h, hs with
            | 0, ⟨g, h, h1, h2⟩, hs => exact ⟨g, hs.trans h, (hE.below.block _ (lt_of_block h1)).trans h1, h2⟩
            | 1, h, hs => exact hs.trans h
            | 2, h, hs => exact hs.trans h
            | 3, h, hs => exact hs.trans h
            | 4, h, hs => exact hs.trans h
            | 5, h, hs => exact hs.trans h
            | 6, h, hs => exact (by rw [hs]; exact RowI.ext h hE)
            | 7, h, hs => exact hs.trans h
            | 8, h, hs => exact hs.trans h
            | 9, h, hs => exact hs.trans h
            | 10, h, hs => exact hs.trans h
            | 11, h, hs => exact hs.trans h
            | 12, h, hs => exact hs.trans h
            | 13, h, hs => exact (by rw [hs]; exact RowI.ext h hE)
            | 14, h, hs => exact hs.trans h
            | i + 15, h, hs => exact trivial)
          (by kernel_rfl) (by kernel_rfl) (by kernel_rfl) 60 rfl (by kernel_rfl) (by kernel_rfl) ?_ ?_
        · intro i op ho a' W hA
          have hld := HLD.out W (Ext.trans HXS.out hA.rel)
          match i, ho with
          | 0, ho =>
            obtain rfl := Option.some.inj ho
            refine GoesG.value (W' := W.alloc (.cells #[] 3)) (.slice (some ⟨W.heap.size, 0, none⟩) 0 0) rfl ?_ (ext_allocN _ _) (fun s g1 g2 => ⟨W.heap.size, g1 rfl, alloc_here _ _, Nat.le_trans HXS.out.size hA.rel.size⟩)
            simp only [execOp]
            simp [go_sem]
          | 1, ho =>
            obtain rfl := Option.some.inj ho
            have e1 : a'.eval (.tmp 1) = .slice (some ⟨b, of, none⟩) (n + 1) c := hA.keep 1 (by kernel_rfl)
            refine GoesG.value (.slice (some ⟨b, of, none⟩) (n + 1) c) rfl ?_ (Below.refl _ _) (fun s h1 h2 => h1 rfl)
            simp only [execOp, e1]
            simp [go_sem, hld, hc1, hn1, hn0, hwn, hn3, hn4]
          | 2, ho =>
            obtain rfl := Option.some.inj ho
            have e1 : a'.eval (.tmp 1) = .slice (some ⟨b, of, none⟩) (n + 1) c := hA.keep 1 (by kernel_rfl)
            refine GoesG.value (.slice (some ⟨b, of, none⟩) (n + 1) c) rfl ?_ (Below.refl _ _) (fun s h1 h2 => h1 rfl)
            simp only [execOp, e1]
            simp [go_sem, hld, hc1, hn1, hn0, hwn, hn3, hn4]
          | 3, ho =>
            obtain rfl := Option.some.inj ho
            have e1 : a'.eval (.tmp 49) = .slice (some ⟨b, of, none⟩) (n + 1) c := (sv_dst (l := _) rfl).symm.trans (hA.new 2 (by decide) (by kernel_rfl))
            refine GoesG.value (.int .i64 ((n + 1) : Int)) rfl ?_ (Below.refl _ _) (fun s h1 h2 => h1 rfl)
            simp [Act.eval] at e1
            simp [execOp, go_sem, e1, hld, hc1, hn1, hn0, hwn, hn3, hn4]
          | 4, ho =>
            obtain rfl := Option.some.inj ho
            have e1 : a'.eval (.tmp 50) = .int .i64 ((n + 1) : Int) := (sv_dst (l := _) rfl).symm.trans (hA.new 3 (by decide) (by kernel_rfl))
            refine GoesG.value (.int .i64 (n : Int)) rfl ?_ (Below.refl _ _) (fun s h1 h2 => h1 rfl)
            simp only [execOp, e1]
            simp [go_sem, hld, hc1, hn1, hn0, hwn, hn3, hn4]
          | 5, ho =>
            obtain rfl := Option.some.inj ho
            have e1 : a'.eval (.tmp 48) = .slice (some ⟨b, of, none⟩) (n + 1) c := (sv_dst (l := _) rfl).symm.trans (hA.new 1 (by decide) (by kernel_rfl))
            have e2 : a'.eval (.tmp 51) = .int .i64 (n : Int) := (sv_dst (l := _) rfl).symm.trans (hA.new 4 (by decide) (by kernel_rfl))
            refine GoesG.value (.slice (some ⟨b, of, none⟩) n c) rfl ?_ (Below.refl _ _) (fun s h1 h2 => h1 rfl)
            simp [Act.eval] at e1 e2
            simp [execOp, go_sem, e1, e2, hld, hc1, hn1, hn0, hwn, hn3, hn4]
          | 6, ho =>
            obtain rfl := Option.some.inj ho
            obtain ⟨g, e0, h1, h2⟩ := hA.new 0 (by decide) (by kernel_rfl)
            have e1 : a'.eval (.tmp 47) = .slice (some ⟨g, 0, none⟩) 0 0 := (sv_dst (l := _) rfl).symm.trans e0
            have e2 : a'.eval (.tmp 52) = .slice (some ⟨b, of, none⟩) n c := (sv_dst (l := _) rfl).symm.trans (hA.new 5 (by decide) (by kernel_rfl))
            obtain ⟨v', W', hr, hrow, hE1⟩ := appE_run w.heap.size W g (c) (some ⟨b, of, none⟩) tl h1 h2 (HTI.out W (Ext.trans HXS.out hA.rel)) HTL.out
            rw [HTN.out] at hr
            exact GoesG.app2 rfl (.tmp 47) (.tmp 52) 27 rfl _ _ (.slice (some ⟨b, of, none⟩) n c) e1 e2 hr hE1 (fun s h1 h2 => (by rw [h1 rfl]; exact hrow))
          | 7, ho =>
            obtain rfl := Option.some.inj ho
            have e1 : a'.eval (.tmp 1) = .slice (some ⟨b, of, none⟩) (n + 1) c := hA.keep 1 (by kernel_rfl)
            refine GoesG.value (.slice (some ⟨b, of, none⟩) (n + 1) c) rfl ?_ (Below.refl _ _) (fun s h1 h2 => h1 rfl)
            simp only [execOp, e1]
            simp [go_sem, hld, hc1, hn1, hn0, hwn, hn3, hn4]
          | 8, ho =>
            obtain rfl := Option.some.inj ho
            have e1 : a'.eval (.tmp 1) = .slice (some ⟨b, of, none⟩) (n + 1) c := hA.keep 1 (by kernel_rfl)
            refine GoesG.value (.slice (some ⟨b, of, none⟩) (n + 1) c) rfl ?_ (Below.refl _ _) (fun s h1 h2 => h1 rfl)
            simp only [execOp, e1]
            simp [go_sem, hld, hc1, hn1, hn0, hwn, hn3, hn4]
          | 9, ho =>
            obtain rfl := Option.some.inj ho
            have e1 : a'.eval (.tmp 55) = .slice (some ⟨b, of, none⟩) (n + 1) c := (sv_dst (l := _) rfl).symm.trans (hA.new 8 (by decide) (by kernel_rfl))
            refine GoesG.value (.int .i64 ((n + 1) : Int)) rfl ?_ (Below.refl _ _) (fun s h1 h2 => h1 rfl)
            simp [Act.eval] at e1
            simp [execOp, go_sem, e1, hld, hc1, hn1, hn0, hwn, hn3, hn4]
          | 10, ho =>
            obtain rfl := Option.some.inj ho
            have e1 : a'.eval (.tmp 56) = .int .i64 ((n + 1) : Int) := (sv_dst (l := _) rfl).symm.trans (hA.new 9 (by decide) (by kernel_rfl))
            refine GoesG.value (.int .i64 (n : Int)) rfl ?_ (Below.refl _ _) (fun s h1 h2 => h1 rfl)
            simp only [execOp, e1]
            simp [go_sem, hld, hc1, hn1, hn0, hwn, hn3, hn4]
          | 11, ho =>
            obtain rfl := Option.some.inj ho
            have e1 : a'.eval (.tmp 54) = .slice (some ⟨b, of, none⟩) (n + 1) c := (sv_dst (l := _) rfl).symm.trans (hA.new 7 (by decide) (by kernel_rfl))
            have e2 : a'.eval (.tmp 57) = .int .i64 (n : Int) := (sv_dst (l := _) rfl).symm.trans (hA.new 10 (by decide) (by kernel_rfl))
            refine GoesG.value (.pointer (some ⟨b, of + n, none⟩)) rfl ?_ (Below.refl _ _) (fun s h1 h2 => h1 rfl)
            simp [Act.eval] at e1 e2
            simp [execOp, go_sem, e1, e2, hld, hc1, hn1, hn0, hwn, hn3, hn4]
          | 12, ho =>
            obtain rfl := Option.some.inj ho
            have e1 : a'.eval (.tmp 58) = .pointer (some ⟨b, of + n, none⟩) := (sv_dst (l := _) rfl).symm.trans (hA.new 11 (by decide) (by kernel_rfl))
            refine GoesG.value (.int .i64 x) rfl ?_ (Below.refl _ _) (fun s h1 h2 => h1 rfl)
            simp only [execOp, e1]
            simp [go_sem, hld, hc1, hn1, hn0, hwn, hn3, hn4]
          | 13, ho =>
            obtain rfl := Option.some.inj ho
            have h1 : RowI w.heap.size (sv _ a' 6) tl W := hA.new 6 (by decide) (by kernel_rfl)
            rw [sv_dst (l := _) (d := 53) rfl] at h1
            refine GoesG.value (a'.eval (.tmp 53)) rfl ?_ (Below.refl _ _) (fun s g1 g2 => ?_)
            · simp [execOp, go_sem]
            · rw [g1 rfl]; exact h1
          | 14, ho =>
            obtain rfl := Option.some.inj ho
            have e1 : a'.eval (.tmp 59) = .int .i64 x := (sv_dst (l := _) rfl).symm.trans (hA.new 12 (by decide) (by kernel_rfl))
            refine GoesG.value (.int .i64 x) rfl ?_ (Below.refl _ _) (fun s h1 h2 => h1 rfl)
            simp only [execOp, e1]
            simp [go_sem, hld, hc1, hn1, hn0, hwn, hn3, hn4]
          | i + 15, ho => cases ho
        · intro vs w4 hvs hG hΦ
          obtain ⟨y0, y1, y2, y3, y4, y5, y6, y7, y8, y9, y10, y11, y12, y13, y14, rfl⟩ : ∃ y0 y1 y2 y3 y4 y5 y6 y7 y8 y9 y10 y11 y12 y13 y14, vs = y0 :: y1 :: y2 :: y3 :: y4 :: y5 :: y6 :: y7 :: y8 :: y9 :: y10 :: y11 :: y12 :: y13 :: y14 :: [] := by
            match vs, hvs with
            | y0 :: y1 :: y2 :: y3 :: y4 :: y5 :: y6 :: y7 :: y8 :: y9 :: y10 :: y11 :: y12 :: y13 :: y14 :: [], _ => exact ⟨y0, y1, y2, y3, y4, y5, y6, y7, y8, y9, y10, y11, y12, y13, y14, rfl⟩
          have p0 : ∃ g, y0 = .slice (some ⟨g, 0, none⟩) 0 0 ∧ w4.heap[g]? = some (.cells #[] 3 (0, 0)) ∧ w.heap.size ≤ g := hΦ 0 (by decide)
          have e1 : y1 = .slice (some ⟨b, of, none⟩) (n + 1) c := hΦ 1 (by decide)
          subst e1
          have e2 : y2 = .slice (some ⟨b, of, none⟩) (n + 1) c := hΦ 2 (by decide)
          subst e2
          have e3 : y3 = .int .i64 ((n + 1) : Int) := hΦ 3 (by decide)
          subst e3
          have e4 : y4 = .int .i64 (n : Int) := hΦ 4 (by decide)
          subst e4
          have e5 : y5 = .slice (some ⟨b, of, none⟩) n c := hΦ 5 (by decide)
          subst e5
          have p6 : RowI w.heap.size (y6) tl w4 := hΦ 6 (by decide)
          have e7 : y7 = .slice (some ⟨b, of, none⟩) (n + 1) c := hΦ 7 (by decide)
          subst e7
          have e8 : y8 = .slice (some ⟨b, of, none⟩) (n + 1) c := hΦ 8 (by decide)
          subst e8
          have e9 : y9 = .int .i64 ((n + 1) : Int) := hΦ 9 (by decide)
          subst e9
          have e10 : y10 = .int .i64 (n : Int) := hΦ 10 (by decide)
          subst e10
          have e11 : y11 = .pointer (some ⟨b, of + n, none⟩) := hΦ 11 (by decide)
          subst e11
          have e12 : y12 = .int .i64 x := hΦ 12 (by decide)
          subst e12
          have p13 : RowI w.heap.size (y13) tl w4 := hΦ 13 (by decide)
          have e14 : y14 = .int .i64 x := hΦ 14 (by decide)
          subst e14
          clear hΦ hvs
          simp only [putAll, Act.put, List.setIfInBounds_toArray, List.set_cons_succ, List.set_cons_zero]
          have HRW := Lib.hid (show RowI w.heap.size y13 tl w4 from p13)
          have HEW := Lib.hid (Ext.trans HXS.out (show Ext wk w4 from hG))
          clear p0 p6 p13 hG
          go_wp2
          go_ret3
          obtain rfl := HZ2.out
          exact rowP HRW.out HEW.out
end Go.Proofs.YtmbkjccckmlacaaDoor

namespace Go.Proofs.YtmbkjccckmlacaaDoor
open Go.RowKit
set_option linter.unusedVariables false
set_option linter.unusedSimpArgs false

set_option maxRecDepth 100000 in
set_option maxHeartbeats 4000000 in
theorem refSet_any (z m arg : Int) (l : List Int) (a : Option Addr) (c : Nat) (w : World) (hm : m = 1 ∨ m = 2 ∨ m = 3) (hz : 0 ≤ z) (hs : stR 5 z l = true) (ha : inM arg = true) (hc : l.length ≤ c) (hA : IntsAt w a l) :
    Calls Tryd.prog 55 #[.agg #[.int .i64 5, .int .i64 z], .slice a l.length c, .int .i64 m, .int .i64 arg] w (ApP w a l (apM 5 z l m arg)) := by
  have hl100 := st_len hs
  have hlz : z ≤ 0 ∨ (l.length : Int) ≤ z := by
    unfold stR at hs
    rw [if_neg (by omega), if_neg (by omega)] at hs
    simp only [Bool.and_eq_true, decide_eq_true_eq] at hs
    exact hs.2.1.2
  have HR := Lib.hid (show apM 5 z l m arg = (if m = 1 then (if isM l arg then (l, 0, 0) else insM z l (posM l arg) arg) else if m = 2 then (if isM l arg then (l.eraseIdx (posM l arg), 1, 0) else (l, 0, 0)) else (l, if isM l arg then 1 else 0, 0)) by
    have hkn : knM 5 m = true := by unfold knM; rcases hm with rfl | rfl | rfl <;> simp
    unfold apM
    rw [if_neg (by simp [hkn]), if_neg (by simp [ha]), if_neg (by omega), if_neg (by omega), if_neg (by omega), if_neg (by omega), if_pos rfl])
  have HAA := Lib.hid (fun W (hW : Ext w W) => hA.ext hW)
  have KP := Lib.hid (fun W (hW : Ext w W) => refPosition_any l arg a c W (by omega) (hA.ext hW))
  have HPL := Lib.hid (posM_le l arg)
  have HIL := Lib.hid (fun h => isM_lt (l := l) (x := arg) h)
  have HXS := Lib.hid (ext_allocN w (.cells #[.int .i64 5, .int .i64 z] 23))
  have HMD := Lib.hid (mdCells w 5 z)
  generalize apM 5 z l m arg = Z at *
  generalize posM l arg = ip at *
  clear hs ha hA
  obtain ⟨len, hlen⟩ : ∃ n, l.length = n := ⟨_, rfl⟩
  have HL := Lib.hid hlen
  rw [hlen] at KP HPL HIL hc hl100 hlz ⊢
  clear hlen
  have HSAME := Lib.hid (fun W (hW : Ext w W) (r : Int) => show ApP w a l (l, r, 0) (.returned (.tuple #[.slice a len c, .int .i64 r, .int .i64 0])) W from ⟨a, c, by rw [HL.out], HAA.out W hW, by rw [HL.out]; exact hc, hW, Frm.same⟩)
  cases his : isM l arg with
  | true =>
    rw [his] at KP HR
    have hil := HIL.out his
    clear his HIL
    rcases hm with rfl | rfl | rfl
    · have HZ := Lib.hid (show Z = (l, 0, 0) by rw [HR.out]; rfl)
      go_enter Tryd.func55, Tryd.ntmps55
      go_wp2_with fail
      refine (KP.out _ HXS.out).mono ?_
      intro w2 hE2
      have HE2 := Lib.hid (Ext.trans HXS.out hE2)
      clear hE2
      go_wp2
      go_ret3
      obtain rfl := HZ.out
      exact HSAME.out _ HE2.out 0
    · have HZ := Lib.hid (show Z = (l.eraseIdx ip, 1, 0) by rw [HR.out]; rfl)
      clear HR
      obtain ⟨b, of, hab, -⟩ := HAA.out w (Below.refl _ _) ip (by rw [HL.out]; exact hil)
      subst hab
      obtain ⟨n1, hn1⟩ : ∃ n1, len = ip + 1 + n1 := ⟨len - (ip + 1), by omega⟩
      have HTI := Lib.hid (fun W (hW : Ext w W) => show IntsAt W (some ⟨b, of, none⟩) (l.take ip) from (HAA.out W hW).pre ip)
      have HTN := Lib.hid (show (l.take ip).length = ip by rw [List.length_take, HL.out]; omega)
      have HTL := Lib.hid (show (l.take ip).length ≤ 1000 by rw [HTN.out]; omega)
      have HDN := Lib.hid (show (l.drop (ip + 1)).length = n1 by rw [List.length_drop, HL.out]; omega)
      obtain ⟨p1, hp1⟩ : ∃ p1 : Option Addr, (if c = ip + 1 then some (⟨b, of, none⟩ : Addr) else some ⟨b, of + (ip + 1), none⟩) = p1 := ⟨_, rfl⟩
      have HDI := Lib.hid (fun W (hW : Ext w W) => show IntsAt W p1 (l.drop (ip + 1)) from by
        rw [← hp1]
        by_cases h1 : c = ip + 1
        · have : l.drop (ip + 1) = [] := List.eq_nil_of_length_eq_zero (by rw [HDN.out]; omega)
          rw [this]; exact IntsAt.nil
        · rw [if_neg h1]
          exact (HAA.out W hW).shift)
      have HER := Lib.hid (show l.take ip ++ l.drop (ip + 1) = l.eraseIdx ip by rw [List.eraseIdx_eq_take_drop_succ])
      have hi0 : (0 : Int) ≤ (ip : Int) := by omega
      have hi1 : (ip : Int) ≤ (c : Int) := by omega
      have hi2 : (0 : Int) ≤ (ip : Int) + 1 := by omega
      have hi3 : (ip : Int) + 1 ≤ (len : Int) := by omega
      have hi4 : ((ip : Int) + 1).toNat = ip + 1 := by omega
      have hi5 : len - (ip + 1) = n1 := by omega
      have hw1 : IntKind.i64.wrap ((ip : Int) + 1) = (ip : Int) + 1 := IntWalk.i64_in _ (by omega)
      have HN1 := Lib.hid hn1
      clear hn1
      go_enter Tryd.func55, Tryd.ntmps55
      go_wp2_with fail
      refine (KP.out _ HXS.out).mono ?_
      intro w2 hE2
      have HX2 := Lib.hid (Ext.trans HXS.out hE2)
      clear hE2
      go_wp2_with fail
      refine wp_region_tail (l1 := [_, _, _, _, _, _, _, _, _]) (l2 := [_, _, _, _]) (by kernel_rfl) Ext (fun W => Below.refl _ W) (fun W => show Below W.heap.size W { W with drawn := W.drawn + 1 } from ⟨rfl, rfl, rfl, Nat.le_refl _, fun _ _ => rfl⟩) Ext.trans
        (fun i s W => match i with
          | 0 => ∃ g, s 0 = .slice (some ⟨g, 0, none⟩) 0 0 ∧ W.heap[g]? = some (.cells #[] 3 (0, 0)) ∧ w.heap.size ≤ g
          | 1 => s 1 = .slice (some ⟨b, of, none⟩) len c
          | 2 => s 2 = .int .i64 (ip : Int)
          | 3 => s 3 = .slice (some ⟨b, of, none⟩) ip c
          | 4 => RowI w.heap.size (s 4) (l.take ip) W
          | 5 => s 5 = .slice (some ⟨b, of, none⟩) len c
          | 6 => s 6 = .int .i64 (ip : Int)
          | 7 => s 7 = .int .i64 ((ip : Int) + 1)
          | 8 => s 8 = .slice p1 n1 (c - (ip + 1))
          | _ => True)
        (fun i => [i])
        (by
          intro i s s' W W' h hs hE
          have hs := hs i (by simp)
          match i, h, hs with
          | 0, ⟨g, h, h1, h2⟩, hs => exact ⟨g, hs.trans h, (hE.below.block _ (lt_of_block h1)).trans h1, h2⟩
          | 1, h, hs => exact hs.trans h
          | 2, h, hs => exact hs.trans h
          | 3, h, hs => exact hs.trans h
          | 4, h, hs => exact (by rw [hs]; exact RowI.ext h hE)
          | 5, h, hs => exact hs.trans h
          | 6, h, hs => exact hs.trans h
          | 7, h, hs => exact hs.trans h
          | 8, h, hs => exact hs.trans h
          | i + 9, h, hs => exact trivial)
        (by kernel_rfl) (by kernel_rfl) (by kernel_rfl) 83 rfl (by kernel_rfl) (by kernel_rfl) ?_ ?_
      · intro i op ho a' W hA
        have _hx := HX2.out
        match i, ho with
        | 0, ho =>
          obtain rfl := Option.some.inj ho
          refine GoesG.value (W' := W.alloc (.cells #[] 3)) (.slice (some ⟨W.heap.size, 0, none⟩) 0 0) rfl ?_ (ext_allocN _ _) (fun s g1 g2 => ⟨W.heap.size, g1 rfl, alloc_here _ _, Nat.le_trans HX2.out.size hA.rel.size⟩)
          simp only [execOp]
          simp [go_sem]
        | 1, ho =>
          obtain rfl := Option.some.inj ho
          have e1 : a'.eval (.tmp 1) = .slice (some ⟨b, of, none⟩) len c := hA.keep 1 (by kernel_rfl)
          refine GoesG.value (.slice (some ⟨b, of, none⟩) len c) rfl ?_ (Below.refl _ _) (fun s h1 h2 => h1 rfl)
          simp only [execOp, e1]
          simp [go_sem, hi0, hi1, hi2, hi3, hi4, hi5, hp1]
        | 2, ho =>
          obtain rfl := Option.some.inj ho
          have e1 : a'.eval (.tmp 11) = .int .i64 (ip : Int) := hA.keep 11 (by kernel_rfl)
          refine GoesG.value (.int .i64 (ip : Int)) rfl ?_ (Below.refl _ _) (fun s h1 h2 => h1 rfl)
          simp only [execOp, e1]
          simp [go_sem, hi0, hi1, hi2, hi3, hi4, hi5, hp1]
        | 3, ho =>
          obtain rfl := Option.some.inj ho
          have e1 : a'.eval (.tmp 47) = .slice (some ⟨b, of, none⟩) len c := (sv_dst (l := _) rfl).symm.trans (hA.new 1 (by decide) (by kernel_rfl))
          have e2 : a'.eval (.tmp 48) = .int .i64 (ip : Int) := (sv_dst (l := _) rfl).symm.trans (hA.new 2 (by decide) (by kernel_rfl))
          refine GoesG.value (.slice (some ⟨b, of, none⟩) ip c) rfl ?_ (Below.refl _ _) (fun s h1 h2 => h1 rfl)
          simp [Act.eval] at e1 e2
          simp [execOp, go_sem, e1, e2, hi0, hi1, hi2, hi3, hi4, hi5, hp1]
        | 4, ho =>
          obtain rfl := Option.some.inj ho
          obtain ⟨g, e0, h1, h2⟩ := hA.new 0 (by decide) (by kernel_rfl)
          have e1 : a'.eval (.tmp 46) = .slice (some ⟨g, 0, none⟩) 0 0 := (sv_dst (l := _) rfl).symm.trans e0
          have e2 : a'.eval (.tmp 49) = .slice (some ⟨b, of, none⟩) ip c := (sv_dst (l := _) rfl).symm.trans (hA.new 3 (by decide) (by kernel_rfl))
          obtain ⟨v', W', hr, hrow, hE1⟩ := appE_run w.heap.size W g c (some ⟨b, of, none⟩) (l.take ip) h1 h2 (HTI.out W (Ext.trans HX2.out hA.rel)) HTL.out
          rw [HTN.out] at hr
          exact GoesG.app2 rfl (.tmp 46) (.tmp 49) 27 rfl _ _ (.slice (some ⟨b, of, none⟩) ip c) e1 e2 hr hE1 (fun s h1 h2 => (by rw [h1 rfl]; exact hrow))
        | 5, ho =>
          obtain rfl := Option.some.inj ho
          have e1 : a'.eval (.tmp 1) = .slice (some ⟨b, of, none⟩) len c := hA.keep 1 (by kernel_rfl)
          refine GoesG.value (.slice (some ⟨b, of, none⟩) len c) rfl ?_ (Below.refl _ _) (fun s h1 h2 => h1 rfl)
          simp only [execOp, e1]
          simp [go_sem, hi0, hi1, hi2, hi3, hi4, hi5, hp1]
        | 6, ho =>
          obtain rfl := Option.some.inj ho
          have e1 : a'.eval (.tmp 11) = .int .i64 (ip : Int) := hA.keep 11 (by kernel_rfl)
          refine GoesG.value (.int .i64 (ip : Int)) rfl ?_ (Below.refl _ _) (fun s h1 h2 => h1 rfl)
          simp only [execOp, e1]
          simp [go_sem, hi0, hi1, hi2, hi3, hi4, hi5, hp1]
        | 7, ho =>
          obtain rfl := Option.some.inj ho
          have e1 : a'.eval (.tmp 52) = .int .i64 (ip : Int) := (sv_dst (l := _) rfl).symm.trans (hA.new 6 (by decide) (by kernel_rfl))
          refine GoesG.value (.int .i64 ((ip : Int) + 1)) rfl ?_ (Below.refl _ _) (fun s h1 h2 => h1 rfl)
          simp only [execOp, e1]
          simp [go_sem, hw1]
        | 8, ho =>
          obtain rfl := Option.some.inj ho
          have e1 : a'.eval (.tmp 51) = .slice (some ⟨b, of, none⟩) len c := (sv_dst (l := _) rfl).symm.trans (hA.new 5 (by decide) (by kernel_rfl))
          have e2 : a'.eval (.tmp 53) = .int .i64 ((ip : Int) + 1) := (sv_dst (l := _) rfl).symm.trans (hA.new 7 (by decide) (by kernel_rfl))
          refine GoesG.value (.slice p1 n1 (c - (ip + 1))) rfl ?_ (Below.refl _ _) (fun s h1 h2 => h1 rfl)
          simp [Act.eval] at e1 e2
          simp [execOp, go_sem, e1, e2, hi0, hi1, hi2, hi3, hi4, hi5, hp1]
        | i + 9, ho => cases ho
      · intro vs w4 hvs hG hΦ
        obtain ⟨y0, y1, y2, y3, y4, y5, y6, y7, y8, rfl⟩ : ∃ y0 y1 y2 y3 y4 y5 y6 y7 y8, vs = y0 :: y1 :: y2 :: y3 :: y4 :: y5 :: y6 :: y7 :: y8 :: [] := by
          match vs, hvs with
          | y0 :: y1 :: y2 :: y3 :: y4 :: y5 :: y6 :: y7 :: y8 :: [], _ => exact ⟨y0, y1, y2, y3, y4, y5, y6, y7, y8, rfl⟩
        have p0 : ∃ g, y0 = .slice (some ⟨g, 0, none⟩) 0 0 ∧ w4.heap[g]? = some (.cells #[] 3 (0, 0)) ∧ w.heap.size ≤ g := hΦ 0 (by decide)
        have e1 : y1 = .slice (some ⟨b, of, none⟩) len c := hΦ 1 (by decide)
        subst e1
        have e2 : y2 = .int .i64 (ip : Int) := hΦ 2 (by decide)
        subst e2
        have e3 : y3 = .slice (some ⟨b, of, none⟩) ip c := hΦ 3 (by decide)
        subst e3
        have p4 : RowI w.heap.size (y4) (l.take ip) w4 := hΦ 4 (by decide)
        have e5 : y5 = .slice (some ⟨b, of, none⟩) len c := hΦ 5 (by decide)
        subst e5
        have e6 : y6 = .int .i64 (ip : Int) := hΦ 6 (by decide)
        subst e6
        have e7 : y7 = .int .i64 ((ip : Int) + 1) := hΦ 7 (by decide)
        subst e7
        have e8 : y8 = .slice p1 n1 (c - (ip + 1)) := hΦ 8 (by decide)
        subst e8
        clear hΦ hvs
        simp only [putAll, Act.put, List.setIfInBounds_toArray, List.set_cons_succ, List.set_cons_zero]
        have HRW := Lib.hid (show RowI w.heap.size y4 (l.take ip) w4 from p4)
        have HEW := Lib.hid (Ext.trans HX2.out (show Ext w2 w4 from hG))
        have HIW := Lib.hid (HDI.out _ HEW.out)
        clear p0 p4 hG
        go_wp2_with (at_builtin; go_loud (refine wp_appF rfl _ _ (by rfl) w.heap.size _ _ (by rfl) _ HRW.out (l.drop (ip + 1)) _ _ (by rw [HDN.out]; rfl) HIW.out (by rw [HTN.out]; omega) (by rw [HDN.out]; omega) HEW.out.size ?_); intro v' w5 hR5 hB5 hs5 hk5 ho5; have HR5 := Lib.hid hR5; have HE5 := Lib.hid (show Ext w w5 from Below.trans HEW.out hB5); clear hR5 hB5 hs5 hk5 ho5)
        go_ret3
        obtain rfl := HZ.out
        rw [← HER.out]
        exact rowP HR5.out HE5.out
    · have HZ := Lib.hid (show Z = (l, 1, 0) by rw [HR.out]; rfl)
      go_enter Tryd.func55, Tryd.ntmps55
      go_wp2_with fail
      refine (KP.out _ HXS.out).mono ?_
      intro w2 hE2
      have HE2 := Lib.hid (Ext.trans HXS.out hE2)
      clear hE2
      go_wp2
      go_ret3
      obtain rfl := HZ.out
      exact HSAME.out _ HE2.out 1
  | false =>
    rw [his] at KP HR
    clear his HIL
    rcases hm with rfl | rfl | rfl
    · have HZ := Lib.hid (show Z = insM z l ip arg by rw [HR.out]; rfl)
      clear HR
      by_cases h1 : 0 < z ∧ z ≤ (len : Int)
      · have HZ2 := Lib.hid (show Z = (l, 0, 0) by rw [HZ.out]; unfold insM; rw [HL.out, if_pos h1])
        have g1 : decide (0 < z) = true := by simpa using h1.1
        have g2 : ((len : Int) == z) = true := by simp; omega
        clear HZ h1 hlz
        go_enter Tryd.func55, Tryd.ntmps55
        go_wp2_with fail
        refine (KP.out _ HXS.out).mono ?_
        intro w2 hE2
        have HE2 := Lib.hid (Ext.trans HXS.out hE2)
        obtain ⟨m0, m1⟩ := HMD.out w2 hE2
        clear hE2
        go_wp2
        go_ret3
        obtain rfl := HZ2.out
        exact HSAME.out _ HE2.out 0
      · have hgz : (decide (0 < z) = false) ∨ (decide (0 < z) = true ∧ ((len : Int) == z) = false) := by
          by_cases h0 : 0 < z
          · exact .inr ⟨by simpa using h0, by simp; omega⟩
          · exact .inl (by simpa using h0)
        by_cases h100 : 100 ≤ len
        · have HZ2 := Lib.hid (show Z = ([], 0, 4) by rw [HZ.out]; unfold insM; rw [HL.out, if_neg h1, if_pos h100])
          have g3 : ((len : Int) == 100) = true := by simp; omega
          clear HZ h1 h100 hlz
          rcases hgz with g1 | ⟨g1, g2⟩
          all_goals
            go_enter Tryd.func55, Tryd.ntmps55
            go_wp2_with fail
            refine (KP.out _ HXS.out).mono ?_
            intro w2 hE2
            have HE2 := Lib.hid (Ext.trans HXS.out hE2)
            obtain ⟨m0, m1⟩ := HMD.out w2 hE2
            clear hE2
            go_wp2
            go_ret3
            obtain rfl := HZ2.out
            exact ⟨_, _, rfl, IntsAt.nil, Nat.le_refl _, HE2.out, Frm.none⟩
        · have HZ2 := Lib.hid (show Z = (l.take ip ++ arg :: l.drop ip, 1, 0) by rw [HZ.out]; unfold insM; rw [HL.out, if_neg h1, if_neg h100])
          have g3 : ((len : Int) == 100) = false := by simp; omega
          clear HZ h1 h100 hlz
          have HTN := Lib.hid (show (l.take ip).length = ip by rw [List.length_take, HL.out]; have := HPL.out; omega)
          have HDN := Lib.hid (show (l.drop ip).length = len - ip by rw [List.length_drop, HL.out])
          have hi0 : (0 : Int) ≤ (ip : Int) := by omega
          have hi1 : (ip : Int) ≤ (c : Int) := by have := HPL.out; omega
          have hi3 : (ip : Int) ≤ (len : Int) := by have := HPL.out; omega
          have HEQ := Lib.hid (show l.take ip ++ [arg] ++ l.drop ip = l.take ip ++ arg :: l.drop ip by simp)
          have HDX := Lib.hid (fun W (hW : Ext w W) => show IntsAt W (if c = ip then a else a.map (fun x => x.add ip)) (l.drop ip) from by
            by_cases h0 : ip < len
            · obtain ⟨b, of, hab, -⟩ := HAA.out w (Below.refl _ _) ip (by rw [HL.out]; exact h0)
              subst hab
              rw [if_neg (by omega)]
              have h3 := (HAA.out W hW).shift (m := ip)
              have e : (⟨b, of, none⟩ : Addr).add ip = ⟨b, of + ip, none⟩ := by unfold Addr.add; split <;> simp_all
              rw [Option.map_some, e]
              exact h3
            · have : l.drop ip = [] := List.eq_nil_of_length_eq_zero (by rw [HDN.out]; omega)
              rw [this]; exact IntsAt.nil)
          have tok1 : True := trivial
          rcases hgz with g1 | ⟨g1, g2⟩
          all_goals
            go_enter Tryd.func55, Tryd.ntmps55
            go_wp2_with fail
            refine (KP.out _ HXS.out).mono ?_
            intro w2 hE2
            have HE2 := Lib.hid (Ext.trans HXS.out hE2)
            obtain ⟨m0, m1⟩ := HMD.out w2 hE2
            clear hE2
            have HXE := Lib.hid (Ext.trans HE2.out (ext_allocN w2 (.cells #[] 3)))
            have HRE := Lib.hid (RowI.empty w2 w.heap.size HE2.out.size)
            have HIT := Lib.hid ((HAA.out _ HXE.out).pre ip)
            have HBE := Lib.hid HXE.out.size
            go_wp2_with (first | (at_builtin; have _t := tok1; clear tok1 _t; go_loud (refine wp_appF rfl _ _ (by rfl) w.heap.size _ [] (by rfl) _ HRE.out (l.take ip) _ _ (by rw [HTN.out]; rfl) HIT.out (by simp) (by rw [HTN.out]; omega) HBE.out ?_); intro v' w3 hR3 hB3 hs3 hk3 ho3; have HR3 := Lib.hid (show RowI w.heap.size v' (l.take ip) w3 from hR3); have HE3 := Lib.hid (show Ext w w3 from Below.trans HXE.out hB3); have HB3 := Lib.hid HE3.out.size; have HLO := Lib.hid (show (l.take ip).length ≤ 10000000000 by rw [HTN.out]; omega); clear hR3 hB3 hs3 hk3 ho3; have tok2 : True := trivial) | (at_builtin; have _t := tok2; clear tok2 _t; go_loud (refine wp_appI rfl _ _ (by rfl) w.heap.size _ _ (by rfl) _ HR3.out arg (by rfl) HLO.out HB3.out ?_); intro v2 w4 hR4 hB4; have HR4 := Lib.hid hR4; have HE4 := Lib.hid (show Ext w w4 from Below.trans HE3.out hB4); clear hR4 hB4; have tok3 : True := trivial) | (at_builtin; have _t := tok3; clear tok3 _t; go_loud (refine wp_appF rfl _ _ (by rfl) w.heap.size _ _ (by rfl) _ HR4.out (l.drop ip) _ _ (by rw [HDN.out]; rfl) (HDX.out _ HE4.out) (by rw [List.length_append, HTN.out]; simp; omega) (by rw [HDN.out]; omega) HE4.out.size ?_); intro v5 w5 hR5 hB5 hs5 hk5 ho5; have HR5 := Lib.hid hR5; have HE5 := Lib.hid (show Ext w w5 from Below.trans HE4.out hB5); clear hR5 hB5 hs5 hk5 ho5))
            all_goals
              go_ret3
              obtain rfl := HZ2.out
              rw [← HEQ.out]
              exact rowP HR5.out HE5.out
    · have HZ := Lib.hid (show Z = (l, 0, 0) by rw [HR.out]; rfl)
      go_enter Tryd.func55, Tryd.ntmps55
      go_wp2_with fail
      refine (KP.out _ HXS.out).mono ?_
      intro w2 hE2
      have HE2 := Lib.hid (Ext.trans HXS.out hE2)
      clear hE2
      go_wp2
      go_ret3
      obtain rfl := HZ.out
      exact HSAME.out _ HE2.out 0
    · have HZ := Lib.hid (show Z = (l, 0, 0) by rw [HR.out]; rfl)
      go_enter Tryd.func55, Tryd.ntmps55
      go_wp2_with fail
      refine (KP.out _ HXS.out).mono ?_
      intro w2 hE2
      have HE2 := Lib.hid (Ext.trans HXS.out hE2)
      clear hE2
      go_wp2
      go_ret3
      obtain rfl := HZ.out
      exact HSAME.out _ HE2.out 0
end Go.Proofs.YtmbkjccckmlacaaDoor

namespace Go.Proofs.YtmbkjccckmlacaaDoor
open Go.RowKit
set_option linter.unusedVariables false
set_option linter.unusedSimpArgs false

theorem ApP.up {w W W' : World} {a0 : Option Addr} {l : List Int} {R : List Int × Int × Int} {e : Ending} (h : ApP W a0 l R e W') (hE : Ext w W) : ApP w a0 l R e W' := by
  obtain ⟨a, c, h1, h2, h3, h4, h5⟩ := h
  exact ⟨a, c, h1, h2, h3, Ext.trans hE h4, h5.up hE⟩
theorem ApP.none {W W' : World} {a0 : Option Addr} {l l' : List Int} {R : List Int × Int × Int} {e : Ending} (h : ApP W none l R e W') : ApP W a0 l' R e W' := by
  obtain ⟨a, c, h1, h2, h3, h4, h5⟩ := h
  refine ⟨a, c, h1, h2, h3, h4, .inl ?_⟩
  rcases h5 with h5 | ⟨h5, -⟩
  · exact h5
  · rintro x rfl; cases h5
theorem kn_m {k m : Int} (h : knM k m = true) : (m = 1 ∨ m = 2) ∨ (m = 3 ∧ k = 5) := by
  unfold knM at h
  have := of_decide_eq_true h
  omega
theorem md_z {k z : Int} (h : mdE k z = 0) : 0 ≤ z := by
  unfold mdE at h
  split at h
  · omega
  · split at h <;> omega
theorem st_one {k z : Int} {l : List Int} (hk : k = 1 ∨ k = 2 ∨ k = 6) (h : stR k z l = true) : ∃ v, l = [v] ∧ inM v = true ∧ (k = 6 → v = 0 ∨ v = 1) := by
  unfold stR at h
  simp only [Bool.and_eq_true] at h
  obtain ⟨h1, h2⟩ := h
  have hv : ∀ v, l = [v] → inM v = true := fun v e => List.all_eq_true.1 h1 v (by rw [e]; simp)
  rcases hk with rfl | rfl | rfl
  · have h3 := of_decide_eq_true (by simpa using h2 : decide (l.length = 1) = true)
    match l, h3 with
    | [v], _ => exact ⟨v, rfl, hv v rfl, fun e => by omega⟩
  · have h3 := of_decide_eq_true (by simpa using h2 : decide (l.length = 1) = true)
    match l, h3 with
    | [v], _ => exact ⟨v, rfl, hv v rfl, fun e => by omega⟩
  · rw [if_neg (by omega), if_pos rfl] at h2
    rcases of_decide_eq_true h2 with rfl | rfl
    · exact ⟨0, rfl, hv 0 rfl, fun _ => .inl rfl⟩
    · exact ⟨1, rfl, hv 1 rfl, fun _ => .inr rfl⟩
set_option maxRecDepth 100000 in
set_option maxHeartbeats 4000000 in
theorem refApply_any (k z : Int) (l : List Int) (m arg : Int) (a : Option Addr) (c : Nat) (w : World) (hl : l.length ≤ 1000) (hA : IntsAt w a l) (hc : l.length ≤ c) :
    Calls Tryd.prog 24 #[.agg #[.int .i64 k, .int .i64 z], .slice a l.length c, .int .i64 m, .int .i64 arg] w (ApP w a l (apR k z l m arg)) := by
  have HX := Lib.hid (ext_allocN w (.cells #[.int .i64 k, .int .i64 z] 23))
  have HMD := Lib.hid (mdCells w k z)
  have KM := Lib.hid (fun W => refCheckModel_any k z W)
  have KK := Lib.hid (fun W => refKnown_any k z m W)
  have KN := Lib.hid (fun W => refNumber_any arg W)
  have HAA := Lib.hid (fun W (hW : Ext w W) => hA.ext hW)
  have HR := Lib.hid (show apR k z l m arg = if mdE k z ≠ 0 then ([], 0, mdE k z) else if stR k z l = false then ([], 0, 1) else apM k z l m arg from rfl)
  have HR2 := Lib.hid (fun (h : knM k m = false) => show apM k z l m arg = ([], 0, 7) by unfold apM; rw [if_pos h])
  have HR3 := Lib.hid (fun (h : knM k m = true) (h2 : inM arg = false) => show apM k z l m arg = ([], 0, 2) by unfold apM; rw [if_neg (by simp [h]), if_pos h2])
  generalize apR k z l m arg = R at *
  obtain ⟨wk, hwk⟩ : ∃ W, W = w.alloc (.cells #[.int .i64 k, .int .i64 z] 23) := ⟨_, rfl⟩
  have hwk' := hwk.symm
  rw [hwk'] at HX HMD
  clear hwk
  obtain ⟨m0, m1⟩ := HMD.out wk (Below.refl _ _)
  by_cases hm : mdE k z = 0
  · obtain ⟨hk1, hk6⟩ := mdE_k hm
    have hz0 := md_z hm
    have KI := Lib.hid (fun W (hW : Ext w W) => refValid_any k z l a c W hk1 hk6 hz0 (by unfold maxLen; omega) (hA.ext hW))
    rw [hm] at KM HR
    cases hs : stR k z l with
    | false =>
      rw [hs] at KI HR
      have HRv := Lib.hid (show R = ([], 0, 1) by rw [HR.out]; rfl)
      clear HR HR2 HR3 hm hs hA
      generalize l.length = len at *
      go_enter Tryd.func24, Tryd.ntmps24
      go_wp2_with fail
      try rw [hwk']
      refine (KM.out _).mono ?_
      intro w2 hE2
      have HX2 := Lib.hid hE2
      have HE2 := Lib.hid (Ext.trans HX.out hE2)
      clear hE2 m0 m1
      obtain ⟨m0, m1⟩ := HMD.out w2 HX2.out
      go_wp2_with fail
      refine (KI.out _ HE2.out).mono ?_
      intro w3 hE3
      have HX3 := Lib.hid (Ext.trans HX2.out hE3)
      have HE3 := Lib.hid (Ext.trans HE2.out hE3)
      clear hE3 m0 m1
      go_wp2
      go_ret3
      obtain rfl := HRv.out
      exact ⟨_, _, rfl, IntsAt.nil, Nat.le_refl _, HE3.out, Frm.none⟩
    | true =>
     have HRv := Lib.hid (show R = apM k z l m arg by rw [HR.out, if_neg (by simp), hs]; rfl)
     have HST := Lib.hid hs
     rw [hs] at KI
     clear HR hs
     cases hkn : knM k m with
     | false =>
      have HRw := Lib.hid (show R = ([], 0, 7) by rw [HRv.out, HR2.out hkn])
      rw [hkn] at KK
      clear HRv HR2 HR3 hkn hm hA
      generalize l.length = len at *
      go_enter Tryd.func24, Tryd.ntmps24
      go_wp2_with fail
      try rw [hwk']
      refine (KM.out _).mono ?_
      intro w2 hE2
      have HX2 := Lib.hid hE2
      have HE2 := Lib.hid (Ext.trans HX.out hE2)
      clear hE2 m0 m1
      obtain ⟨m0, m1⟩ := HMD.out w2 HX2.out
      go_wp2_with fail
      refine (KI.out _ HE2.out).mono ?_
      intro w3 hE3
      have HX3 := Lib.hid (Ext.trans HX2.out hE3)
      have HE3 := Lib.hid (Ext.trans HE2.out hE3)
      clear hE3 m0 m1
      obtain ⟨m0, m1⟩ := HMD.out w3 HX3.out
      go_wp2_with fail
      refine (KK.out _).mono ?_
      intro w4 hE4
      have HX4 := Lib.hid (Ext.trans HX3.out hE4)
      have HE4 := Lib.hid (Ext.trans HE3.out hE4)
      clear hE4 m0 m1
      go_wp2
      go_ret3
      obtain rfl := HRw.out
      exact ⟨_, _, rfl, IntsAt.nil, Nat.le_refl _, HE4.out, Frm.none⟩
     | true =>
      cases hin : inM arg with
      | false =>
       have HRw := Lib.hid (show R = ([], 0, 2) by rw [HRv.out, HR3.out hkn hin])
       rw [hkn] at KK
       rw [hin] at KN
       clear HRv HR2 HR3 hkn hm hA hin
       generalize l.length = len at *
       go_enter Tryd.func24, Tryd.ntmps24
       go_wp2_with fail
       try rw [hwk']
       refine (KM.out _).mono ?_
       intro w2 hE2
       have HX2 := Lib.hid hE2
       have HE2 := Lib.hid (Ext.trans HX.out hE2)
       clear hE2 m0 m1
       obtain ⟨m0, m1⟩ := HMD.out w2 HX2.out
       go_wp2_with fail
       refine (KI.out _ HE2.out).mono ?_
       intro w3 hE3
       have HX3 := Lib.hid (Ext.trans HX2.out hE3)
       have HE3 := Lib.hid (Ext.trans HE2.out hE3)
       clear hE3 m0 m1
       obtain ⟨m0, m1⟩ := HMD.out w3 HX3.out
       go_wp2_with fail
       refine (KK.out _).mono ?_
       intro w4 hE4
       have HX4 := Lib.hid (Ext.trans HX3.out hE4)
       have HE4 := Lib.hid (Ext.trans HE3.out hE4)
       clear hE4 m0 m1
       go_wp2_with fail
       refine (KN.out _).mono ?_
       rintro e w5 ⟨rfl, hw5⟩
       obtain rfl : w4 = w5 := hw5.symm
       go_wp2
       go_ret3
       obtain rfl := HRw.out
       exact ⟨_, _, rfl, IntsAt.nil, Nat.le_refl _, HE4.out, Frm.none⟩
      | true =>
       have HMM := Lib.hid (kn_m hkn)
       rw [hkn] at KK
       rw [hin] at KN
       have HIN := Lib.hid hin
       clear HR2 HR3 hkn hm hA hin
       have hkk : k = 5 ∨ (k = 3 ∨ k = 4) ∨ (k = 1 ∨ k = 2 ∨ k = 6) := by omega
       rcases hkk with rfl | hk34 | hk126
       · have KS := Lib.hid (fun W (hW : Ext w W) => refSet_any z m arg l a c W (by have := HMM.out; omega) hz0 HST.out HIN.out hc (HAA.out W hW))
         generalize apM 5 z l m arg = Z at *
         obtain ⟨Z1, rs, er⟩ := Z
         unfold ApP at KS
         dsimp only at KS
         obtain ⟨len, hlen⟩ : ∃ n, l.length = n := ⟨_, rfl⟩
         rw [hlen] at KI KS hc hl ⊢
         clear hlen
         go_enter Tryd.func24, Tryd.ntmps24
         go_wp2_with fail
         try rw [hwk']
         refine (KM.out _).mono ?_
         intro w2 hE2
         have HX2 := Lib.hid hE2
         have HE2 := Lib.hid (Ext.trans HX.out hE2)
         clear hE2 m0 m1
         obtain ⟨m0, m1⟩ := HMD.out w2 HX2.out
         go_wp2_with fail
         refine (KI.out _ HE2.out).mono ?_
         intro w3 hE3
         have HX3 := Lib.hid (Ext.trans HX2.out hE3)
         have HE3 := Lib.hid (Ext.trans HE2.out hE3)
         clear hE3 m0 m1
         obtain ⟨m0, m1⟩ := HMD.out w3 HX3.out
         go_wp2_with fail
         refine (KK.out _).mono ?_
         intro w4 hE4
         have HX4 := Lib.hid (Ext.trans HX3.out hE4)
         have HE4 := Lib.hid (Ext.trans HE3.out hE4)
         clear hE4 m0 m1
         go_wp2_with fail
         refine (KN.out _).mono ?_
         rintro e w5 ⟨rfl, hw5⟩
         obtain rfl : w4 = w5 := hw5.symm
         obtain ⟨m0, m1⟩ := HMD.out w4 HX4.out
         go_wp2_with fail
         refine (KS.out _ HE4.out).mono ?_
         rintro e w6 ⟨a6, c6, rfl, hI6, hc6, hE6, hF6⟩
         have HP := Lib.hid (show ApP w a l (Z1, rs, er) (.returned (.tuple #[.slice a6 Z1.length c6, .int .i64 rs, .int .i64 er])) w6 from ⟨a6, c6, rfl, hI6, hc6, Ext.trans HE4.out hE6, hF6.up HE4.out⟩)
         generalize Z1.length = lz at *
         clear hI6 hc6 hE6 hF6 m0 m1
         go_wp2
         go_ret3
         obtain rfl := HRv.out
         exact HP.out
       · have d5 : (k == 5) = false := by simp; omega
         have hgk : (k == 3) = true ∨ ((k == 3) = false ∧ (k == 4) = true) := by
           rcases hk34 with rfl | rfl
           · exact .inl rfl
           · exact .inr ⟨rfl, rfl⟩
         have KS := Lib.hid (fun W (hW : Ext w W) => refList_any k z m arg l a c W hk34 (by have := HMM.out; omega) hz0 HST.out HIN.out hc (HAA.out W hW))
         generalize apM k z l m arg = Z at *
         obtain ⟨Z1, rs, er⟩ := Z
         unfold ApP at KS
         dsimp only at KS
         obtain ⟨len, hlen⟩ : ∃ n, l.length = n := ⟨_, rfl⟩
         rw [hlen] at KI KS hc hl ⊢
         clear hlen hk34
         rcases hgk with d3 | ⟨d3, d4⟩
         all_goals
           go_enter Tryd.func24, Tryd.ntmps24
           go_wp2_with fail
           try rw [hwk']
           refine (KM.out _).mono ?_
           intro w2 hE2
           have HX2 := Lib.hid hE2
           have HE2 := Lib.hid (Ext.trans HX.out hE2)
           clear hE2 m0 m1
           obtain ⟨m0, m1⟩ := HMD.out w2 HX2.out
           go_wp2_with fail
           refine (KI.out _ HE2.out).mono ?_
           intro w3 hE3
           have HX3 := Lib.hid (Ext.trans HX2.out hE3)
           have HE3 := Lib.hid (Ext.trans HE2.out hE3)
           clear hE3 m0 m1
           obtain ⟨m0, m1⟩ := HMD.out w3 HX3.out
           go_wp2_with fail
           refine (KK.out _).mono ?_
           intro w4 hE4
           have HX4 := Lib.hid (Ext.trans HX3.out hE4)
           have HE4 := Lib.hid (Ext.trans HE3.out hE4)
           clear hE4 m0 m1
           go_wp2_with fail
           refine (KN.out _).mono ?_
           rintro e w5 ⟨rfl, hw5⟩
           obtain rfl : w4 = w5 := hw5.symm
           obtain ⟨m0, m1⟩ := HMD.out w4 HX4.out
           go_wp2_with fail
           refine (KS.out _ HE4.out).mono ?_
           rintro e w6 ⟨a6, c6, rfl, hI6, hc6, hE6, hF6⟩
           have HP := Lib.hid (show ApP w a l (Z1, rs, er) (.returned (.tuple #[.slice a6 Z1.length c6, .int .i64 rs, .int .i64 er])) w6 from ⟨a6, c6, rfl, hI6, hc6, Ext.trans HE4.out hE6, hF6.up HE4.out⟩)
           generalize Z1.length = lz at *
           clear hI6 hc6 hE6 hF6 m0 m1
           go_wp2
           go_ret3
           obtain rfl := HRv.out
           exact HP.out
       · have d5 : (k == 5) = false := by simp; omega
         have d3 : (k == 3) = false := by simp; omega
         have d4 : (k == 4) = false := by simp; omega
         obtain ⟨v, rfl, hv, hv6⟩ := st_one hk126 HST.out
         obtain ⟨b, of, hab, -⟩ := HAA.out w (Below.refl _ _) 0 (by simp)
         subst hab
         have HLD := Lib.hid (fun W (hW : Ext w W) => show W.cell? ⟨b, of, none⟩ = some (.int .i64 v) from by
           obtain ⟨b', o', e', hc'⟩ := HAA.out W hW 0 (by simp)
           cases e'
           exact hc')
         have KS := Lib.hid (fun W => refCell_any k z v m arg W hk126 (by have := HMM.out; omega) hv HIN.out hv6)
         generalize apM k z [v] m arg = Z at *
         obtain ⟨Z1, rs, er⟩ := Z
         unfold ApP at KS
         dsimp only at KS
         simp only [List.length_singleton] at *
         clear hk126 hv hv6
         go_enter Tryd.func24, Tryd.ntmps24
         go_wp2_with fail
         try rw [hwk']
         refine (KM.out _).mono ?_
         intro w2 hE2
         have HX2 := Lib.hid hE2
         have HE2 := Lib.hid (Ext.trans HX.out hE2)
         clear hE2 m0 m1
         obtain ⟨m0, m1⟩ := HMD.out w2 HX2.out
         go_wp2_with fail
         refine (KI.out _ HE2.out).mono ?_
         intro w3 hE3
         have HX3 := Lib.hid (Ext.trans HX2.out hE3)
         have HE3 := Lib.hid (Ext.trans HE2.out hE3)
         clear hE3 m0 m1
         obtain ⟨m0, m1⟩ := HMD.out w3 HX3.out
         go_wp2_with fail
         refine (KK.out _).mono ?_
         intro w4 hE4
         have HX4 := Lib.hid (Ext.trans HX3.out hE4)
         have HE4 := Lib.hid (Ext.trans HE3.out hE4)
         clear hE4 m0 m1
         go_wp2_with fail
         refine (KN.out _).mono ?_
         rintro e w5 ⟨rfl, hw5⟩
         obtain rfl : w4 = w5 := hw5.symm
         obtain ⟨m0, m1⟩ := HMD.out w4 HX4.out
         go_wp2_with fail
         refine wp_region_tail (l1 := [_, _, _, _, _, _, _, _, _, _, _, _]) (l2 := [_]) (by kernel_rfl) Ext (fun W => Below.refl _ W) (fun W => show Below W.heap.size W { W with drawn := W.drawn + 1 } from ⟨rfl, rfl, rfl, Nat.le_refl _, fun _ _ => rfl⟩) Ext.trans
           (fun i s W => match i with
             | 0 => s 0 = .agg #[.int .i64 k, .int .i64 z]
             | 1 => s 1 = .slice (some ⟨b, of, none⟩) 1 c
             | 2 => s 2 = .pointer (some ⟨b, of, none⟩)
             | 3 => s 3 = .int .i64 v
             | 4 => s 4 = .int .i64 m
             | 5 => s 5 = .int .i64 arg
             | 6 => ∃ a1 c1, s 6 = .tuple #[.slice a1 Z1.length c1, .int .i64 rs, .int .i64 er] ∧ IntsAt W a1 Z1 ∧ Z1.length ≤ c1 ∧ Frm w4 none [v] a1 Z1
             | 7 => ∃ a1 c1, s 7 = .slice a1 Z1.length c1 ∧ IntsAt W a1 Z1 ∧ Z1.length ≤ c1 ∧ Frm w4 none [v] a1 Z1
             | 8 => s 8 = .int .i64 rs
             | 9 => s 9 = .int .i64 er
             | 10 => ∃ a1 c1, s 10 = .slice a1 Z1.length c1 ∧ IntsAt W a1 Z1 ∧ Z1.length ≤ c1 ∧ Frm w4 none [v] a1 Z1
             | 11 => s 11 = .int .i64 rs
             | _ => True)
           (fun i => [i])
           (by
             intro i s s' W W' h hs hE
             have hs := hs i (by simp)
             match i, h, hs with
             | 0, h, hs => exact hs.trans h
             | 1, h, hs => exact hs.trans h
             | 2, h, hs => exact hs.trans h
             | 3, h, hs => exact hs.trans h
             | 4, h, hs => exact hs.trans h
             | 5, h, hs => exact hs.trans h
             | 6, ⟨a1, c1, h, h1, h2, h3⟩, hs => exact ⟨a1, c1, hs.trans h, h1.ext hE, h2, h3⟩
             | 7, ⟨a1, c1, h, h1, h2, h3⟩, hs => exact ⟨a1, c1, hs.trans h, h1.ext hE, h2, h3⟩
             | 8, h, hs => exact hs.trans h
             | 9, h, hs => exact hs.trans h
             | 10, ⟨a1, c1, h, h1, h2, h3⟩, hs => exact ⟨a1, c1, hs.trans h, h1.ext hE, h2, h3⟩
             | 11, h, hs => exact hs.trans h
             | i + 12, h, hs => exact trivial)
           (by kernel_rfl) (by kernel_rfl) (by kernel_rfl) 65 rfl (by kernel_rfl) (by kernel_rfl) ?_ ?_
         · intro i op ho a' W hA
           obtain ⟨m0, m1⟩ := HMD.out W (Ext.trans HX4.out hA.rel)
           have hld := HLD.out W (Ext.trans HE4.out hA.rel)
           match i, ho with
           | 0, ho =>
             obtain rfl := Option.some.inj ho
             have e1 : a'.eval (.tmp 4) = .pointer (some ⟨w.heap.size, 0, none⟩) := hA.keep 4 (by kernel_rfl)
             refine GoesG.value (.agg #[.int .i64 k, .int .i64 z]) rfl ?_ (Below.refl _ _) (fun s h1 h2 => h1 rfl)
             simp only [execOp, e1]
             simp [go_sem, m0, m1, hld]
           | 1, ho =>
             obtain rfl := Option.some.inj ho
             have e1 : a'.eval (.tmp 1) = .slice (some ⟨b, of, none⟩) 1 c := hA.keep 1 (by kernel_rfl)
             refine GoesG.value (.slice (some ⟨b, of, none⟩) 1 c) rfl ?_ (Below.refl _ _) (fun s h1 h2 => h1 rfl)
             simp only [execOp, e1]
             simp [go_sem, m0, m1, hld]
           | 2, ho =>
             obtain rfl := Option.some.inj ho
             have e1 : a'.eval (.tmp 56) = .slice (some ⟨b, of, none⟩) 1 c := (sv_dst (l := _) rfl).symm.trans (hA.new 1 (by decide) (by kernel_rfl))
             refine GoesG.value (.pointer (some ⟨b, of, none⟩)) rfl ?_ (Below.refl _ _) (fun s h1 h2 => h1 rfl)
             simp only [execOp, e1]
             simp [go_sem, m0, m1, hld]
           | 3, ho =>
             obtain rfl := Option.some.inj ho
             have e1 : a'.eval (.tmp 57) = .pointer (some ⟨b, of, none⟩) := (sv_dst (l := _) rfl).symm.trans (hA.new 2 (by decide) (by kernel_rfl))
             refine GoesG.value (.int .i64 v) rfl ?_ (Below.refl _ _) (fun s h1 h2 => h1 rfl)
             simp only [execOp, e1]
             simp [go_sem, m0, m1, hld]
           | 4, ho =>
             obtain rfl := Option.some.inj ho
             have e1 : a'.eval (.tmp 2) = .int .i64 m := hA.keep 2 (by kernel_rfl)
             refine GoesG.value (.int .i64 m) rfl ?_ (Below.refl _ _) (fun s h1 h2 => h1 rfl)
             simp only [execOp, e1]
             simp [go_sem, m0, m1, hld]
           | 5, ho =>
             obtain rfl := Option.some.inj ho
             have e1 : a'.eval (.tmp 3) = .int .i64 arg := hA.keep 3 (by kernel_rfl)
             refine GoesG.value (.int .i64 arg) rfl ?_ (Below.refl _ _) (fun s h1 h2 => h1 rfl)
             simp only [execOp, e1]
             simp [go_sem, m0, m1, hld]
           | 6, ho =>
             obtain rfl := Option.some.inj ho
             have e1 : a'.eval (.tmp 55) = .agg #[.int .i64 k, .int .i64 z] := (sv_dst (l := _) rfl).symm.trans (hA.new 0 (by decide) (by kernel_rfl))
             have e2 : a'.eval (.tmp 58) = .int .i64 v := (sv_dst (l := _) rfl).symm.trans (hA.new 3 (by decide) (by kernel_rfl))
             have e3 : a'.eval (.tmp 59) = .int .i64 m := (sv_dst (l := _) rfl).symm.trans (hA.new 4 (by decide) (by kernel_rfl))
             have e4 : a'.eval (.tmp 60) = .int .i64 arg := (sv_dst (l := _) rfl).symm.trans (hA.new 5 (by decide) (by kernel_rfl))
             refine GoesG.call 57 #[.agg #[.int .i64 k, .int .i64 z], .int .i64 v, .int .i64 m, .int .i64 arg] rfl ?_ ?_
             · have en := enters_fn Tryd.func57 (by kernel_rfl) rfl
               simp [Act.eval] at e1 e2 e3 e4
               simp [execOp, go_sem, e1, e2, e3, e4, en]
             · refine (KS.out W).mono ?_
               rintro e W2 ⟨a1, c1, rfl, h1, h2, h3, h4⟩
               exact ⟨_, rfl, h3, fun s g1 g2 => ⟨a1, c1, g1 rfl, h1, h2, h4.up hA.rel⟩⟩
           | 7, ho =>
             obtain rfl := Option.some.inj ho
             obtain ⟨a1, c1, e0, h1, h2, h3⟩ := hA.new 6 (by decide) (by kernel_rfl)
             have e1 : a'.eval (.tmp 61) = .tuple #[.slice a1 Z1.length c1, .int .i64 rs, .int .i64 er] := (sv_dst (l := _) rfl).symm.trans e0
             refine GoesG.value (.slice a1 Z1.length c1) rfl ?_ (Below.refl _ _) (fun s g1 g2 => ⟨a1, c1, g1 rfl, h1, h2, h3⟩)
             simp only [execOp, e1]
             simp [go_sem]
           | 8, ho =>
             obtain rfl := Option.some.inj ho
             obtain ⟨a1, c1, e0, h1, h2, h3⟩ := hA.new 6 (by decide) (by kernel_rfl)
             have e1 : a'.eval (.tmp 61) = .tuple #[.slice a1 Z1.length c1, .int .i64 rs, .int .i64 er] := (sv_dst (l := _) rfl).symm.trans e0
             refine GoesG.value (.int .i64 rs) rfl ?_ (Below.refl _ _) (fun s g1 g2 => g1 rfl)
             simp only [execOp, e1]
             simp [go_sem]
           | 9, ho =>
             obtain rfl := Option.some.inj ho
             obtain ⟨a1, c1, e0, h1, h2, h3⟩ := hA.new 6 (by decide) (by kernel_rfl)
             have e1 : a'.eval (.tmp 61) = .tuple #[.slice a1 Z1.length c1, .int .i64 rs, .int .i64 er] := (sv_dst (l := _) rfl).symm.trans e0
             refine GoesG.value (.int .i64 er) rfl ?_ (Below.refl _ _) (fun s g1 g2 => g1 rfl)
             simp only [execOp, e1]
             simp [go_sem]
           | 10, ho =>
             obtain rfl := Option.some.inj ho
             obtain ⟨a1, c1, e0, h1, h2, h3⟩ := hA.new 7 (by decide) (by kernel_rfl)
             have e1 : a'.eval (.tmp 62) = .slice a1 Z1.length c1 := (sv_dst (l := _) rfl).symm.trans e0
             refine GoesG.value (.slice a1 Z1.length c1) rfl ?_ (Below.refl _ _) (fun s g1 g2 => ⟨a1, c1, g1 rfl, h1, h2, h3⟩)
             simp only [execOp, e1]
             simp [go_sem]
           | 11, ho =>
             obtain rfl := Option.some.inj ho
             have e1 : a'.eval (.tmp 63) = .int .i64 rs := (sv_dst (l := _) rfl).symm.trans (hA.new 8 (by decide) (by kernel_rfl))
             refine GoesG.value (.int .i64 rs) rfl ?_ (Below.refl _ _) (fun s h1 h2 => h1 rfl)
             simp only [execOp, e1]
             simp [go_sem, m0, m1, hld]
           | i + 12, ho => cases ho
         · intro vs w4' hvs hG hΦ
           obtain ⟨y0, y1, y2, y3, y4, y5, y6, y7, y8, y9, y10, y11, rfl⟩ : ∃ y0 y1 y2 y3 y4 y5 y6 y7 y8 y9 y10 y11, vs = y0 :: y1 :: y2 :: y3 :: y4 :: y5 :: y6 :: y7 :: y8 :: y9 :: y10 :: y11 :: [] := by
             match vs, hvs with
             | y0 :: y1 :: y2 :: y3 :: y4 :: y5 :: y6 :: y7 :: y8 :: y9 :: y10 :: y11 :: [], _ => exact ⟨y0, y1, y2, y3, y4, y5, y6, y7, y8, y9, y10, y11, rfl⟩
           have e0 : y0 = .agg #[.int .i64 k, .int .i64 z] := hΦ 0 (by decide)
           subst e0
           have e1 : y1 = .slice (some ⟨b, of, none⟩) 1 c := hΦ 1 (by decide)
           subst e1
           have e2 : y2 = .pointer (some ⟨b, of, none⟩) := hΦ 2 (by decide)
           subst e2
           have e3 : y3 = .int .i64 v := hΦ 3 (by decide)
           subst e3
           have e4 : y4 = .int .i64 m := hΦ 4 (by decide)
           subst e4
           have e5 : y5 = .int .i64 arg := hΦ 5 (by decide)
           subst e5
           have p6 : ∃ a1 c1, y6 = .tuple #[.slice a1 Z1.length c1, .int .i64 rs, .int .i64 er] ∧ IntsAt w4' a1 Z1 ∧ Z1.length ≤ c1 ∧ Frm w4 none [v] a1 Z1 := hΦ 6 (by decide)
           have p7 : ∃ a1 c1, y7 = .slice a1 Z1.length c1 ∧ IntsAt w4' a1 Z1 ∧ Z1.length ≤ c1 ∧ Frm w4 none [v] a1 Z1 := hΦ 7 (by decide)
           have e8 : y8 = .int .i64 rs := hΦ 8 (by decide)
           subst e8
           have e9 : y9 = .int .i64 er := hΦ 9 (by decide)
           subst e9
           have p10 : ∃ a1 c1, y10 = .slice a1 Z1.length c1 ∧ IntsAt w4' a1 Z1 ∧ Z1.length ≤ c1 ∧ Frm w4 none [v] a1 Z1 := hΦ 10 (by decide)
           have e11 : y11 = .int .i64 rs := hΦ 11 (by decide)
           subst e11
           clear hΦ hvs
           simp only [putAll, Act.put, List.setIfInBounds_toArray, List.set_cons_succ, List.set_cons_zero]
           obtain ⟨a6, c6, h6, hI6, hc6, hF6⟩ := p10
           subst h6
           have HP := Lib.hid (show ApP w (some ⟨b, of, none⟩) [v] (Z1, rs, er) (.returned (.tuple #[.slice a6 Z1.length c6, .int .i64 rs, .int .i64 er])) w4' from ApP.none (l := [v]) ⟨a6, c6, rfl, hI6, hc6, Ext.trans HE4.out (show Ext w4 w4' from hG), hF6.up HE4.out⟩)
           generalize Z1.length = lz at *
           clear hI6 hc6 hF6 m0 m1 p6 p7 hG
           go_wp2
           go_ret3
           obtain rfl := HRv.out
           exact HP.out
  · have HRv := Lib.hid (show R = ([], 0, mdE k z) by rw [HR.out, if_pos hm])
    have g1 : (mdE k z != 0) = true := by rw [bne_iff_ne]; exact hm
    clear HR HR2 HR3 hm hA
    generalize mdE k z = E at *
    generalize l.length = len at *
    go_enter Tryd.func24, Tryd.ntmps24
    go_wp2_with fail
    try rw [hwk']
    refine (KM.out _).mono ?_
    intro w2 hE2
    have HE2 := Lib.hid (Ext.trans HX.out hE2)
    clear hE2 m0 m1
    go_wp2
    go_ret3
    obtain rfl := HRv.out
    exact ⟨_, _, rfl, IntsAt.nil, Nat.le_refl _, HE2.out, Frm.none⟩
end Go.Proofs.YtmbkjccckmlacaaDoor

namespace Go.Proofs.YtmbkjccckmlacaaDoor
open Go.RowKit
set_option linter.unusedVariables false
set_option linter.unusedSimpArgs false

/-- the reference's initial state -/
def rIni (k : Int) : List Int := if k = 1 ∨ k = 2 ∨ k = 6 then [0] else []
theorem rIni_eq {k z : Int} (h : mdE k z = 0) : rIni k = iniR k := by
  obtain ⟨h1, h6⟩ := mdE_k h
  unfold rIni iniR lsM
  have : k = 1 ∨ k = 2 ∨ k = 3 ∨ k = 4 ∨ k = 5 ∨ k = 6 := by omega
  rcases this with rfl | rfl | rfl | rfl | rfl | rfl <;> rfl
theorem RowI.lit1 (w W : World) (x : Int) (base : Nat) (hb : base ≤ W.heap.size) : RowI base (.slice (some ⟨W.heap.size, 0, none⟩) 1 1) [x] (W.alloc (.cells #[.int .i64 x] 3)) :=
  World.ownsRow_lit W #[.int .i64 x] 1 hb (by unfold maxLen; omega) (by simp)
theorem refInitial_any (k z : Int) (w : World) : Calls Tryd.prog 28 #[.agg #[.int .i64 k, .int .i64 z]] w (fun e w' => ∃ v, e = .returned v ∧ RowI w.heap.size v (rIni k) w' ∧ Ext w w') := by
  have HX := Lib.hid (ext_allocN w (.cells #[.int .i64 k, .int .i64 z] 23))
  have c0 := mdb0 w k z
  have HR := Lib.hid (show rIni k = if k = 1 ∨ k = 2 ∨ k = 6 then [0] else [] from rfl)
  generalize rIni k = R at *
  by_cases h1 : k = 1
  · have HRv := Lib.hid (show R = [0] by rw [HR.out, if_pos (Or.inl h1)])
    have d1 : (k == 1) = true := by simpa using h1
    clear h1 HR
    go_enter Tryd.func28, Tryd.ntmps28
    go_wp2
    go_ret
    obtain rfl := HRv.out
    exact ⟨_, rfl, by have := RowI.lit1 w (w.alloc (.cells #[.int .i64 k, .int .i64 z] 23)) 0 w.heap.size (by simp); simpa using this, HX.out.alloc (by simp) _⟩
  · have d1 : (k == 1) = false := by simpa using h1
    by_cases h2 : k = 2
    · have HRv := Lib.hid (show R = [0] by rw [HR.out, if_pos (Or.inr (Or.inl h2))])
      have d2 : (k == 2) = true := by simpa using h2
      clear h1 h2 HR
      go_enter Tryd.func28, Tryd.ntmps28
      go_wp2
      go_ret
      obtain rfl := HRv.out
      exact ⟨_, rfl, by have := RowI.lit1 w (w.alloc (.cells #[.int .i64 k, .int .i64 z] 23)) 0 w.heap.size (by simp); simpa using this, HX.out.alloc (by simp) _⟩
    · have d2 : (k == 2) = false := by simpa using h2
      by_cases h6 : k = 6
      · have HRv := Lib.hid (show R = [0] by rw [HR.out, if_pos (Or.inr (Or.inr h6))])
        have d6 : (k == 6) = true := by simpa using h6
        clear h1 h2 h6 HR
        go_enter Tryd.func28, Tryd.ntmps28
        go_wp2
        go_ret
        obtain rfl := HRv.out
        exact ⟨_, rfl, by have := RowI.lit1 w (w.alloc (.cells #[.int .i64 k, .int .i64 z] 23)) 0 w.heap.size (by simp); simpa using this, HX.out.alloc (by simp) _⟩
      · have d6 : (k == 6) = false := by simpa using h6
        have HRv := Lib.hid (show R = [] by rw [HR.out, if_neg (by omega)])
        clear h1 h2 h6 HR
        go_enter Tryd.func28, Tryd.ntmps28
        go_wp2
        go_ret
        obtain rfl := HRv.out
        exact ⟨_, rfl, RowI.nil _ _, HX.out⟩
/-- all blocks but rows of operations are as they were -/
def KeptOp (w w' : World) : Prop := w.heap.size ≤ w'.heap.size ∧ ∀ (b : Nat) o, w.heap[b]? = some o → (∀ c f, o ≠ .cells c tOp f) → w'.heap[b]? = some o
theorem KeptOp.of_ext {w w' : World} (h : Ext w w') : KeptOp w w' := ⟨h.size, fun b o hb _ => (h.below.block b (lt_of_block hb)).trans hb⟩
theorem KeptOp.trans {a b c : World} (h : KeptOp a b) (g : KeptOp b c) : KeptOp a c := ⟨Nat.le_trans h.1 g.1, fun k o hk hn => g.2 k o (h.2 k o hk hn) hn⟩
theorem RowI.keptOp {base : Nat} {v : Value} {l : List Int} {w w' : World} (h : RowI base v l w) (hk : KeptOp w w') : RowI base v l w' := by
  obtain ⟨h1, h2⟩ := h
  refine ⟨h1, ?_⟩
  rcases h2 with h2 | ⟨b, cap, cur, rfl, hb, hg, hn, hm, hs, ht⟩
  · exact .inl h2
  · exact .inr ⟨b, cap, cur, rfl, hb, hk.2 _ _ hg (fun c f e => by cases e), hn, hm, hs, ht⟩
variable {ops : Array Oper} {rest : List Oper} {o : Oper} {a : Act} {Q : Exit → Act → World → Prop}
theorem wp_appOK (hgd : o.guard = none) (s x : Operand) (ho : o.op = .call { callee := .builtin .append, args := #[s, x], argTypes := #[24, 24] })
    (base : Nat) (v : Value) (l : List Cl) (hs : a.eval s = v) (W : World) (h : RowO base v l W) (r : Cl) (g : Nat) (hgs : g = W.heap.size) (hx : a.eval x = .slice (some ⟨g, 0, none⟩) 1 1) (hlen : l.length ≤ 1000000000) (hbase : base ≤ W.heap.size)
    (hK : ∀ v' w', RowO base v' (l ++ [r]) w' → Below base W w' → KeptOp W w' → wpList Tryd.prog ops Q rest (a.put o.dst v') w') : wpList Tryd.prog ops Q (o :: rest) a (W.alloc (cClO r)) := by
  subst hgs
  obtain ⟨i0, hi, hz0, hz1, hz2⟩ := info_parts infoOp
  have hrow : RowO base v l (W.alloc (cClO r)) := h.ext (ext_allocN _ _)
  have hg0 := alloc_here W (cClO r)
  refine wpList_append_own _ hgd s x 24 ho base 48 i0 (.agg #[.int .i64 0, .int .i64 0, .int .i64 0, .int .i64 0, .int .i64 0, .int .i64 0]) 6 48 Tryd.underlying24 hi hz0 hz1 hz2 rfl (by decide) v l.length (l.flatMap cOp) hs hrow ⟨W.heap.size, 0, none⟩ 1 1 (cOp r) hx rfl (fun j u hu => ?_) (fun u hu => ?_) (by unfold maxLen; omega) (by omega) (by simp; omega) ?_
  · have e : (⟨W.heap.size, 0, none⟩ : Addr).add j = ⟨W.heap.size, j, none⟩ := by unfold Addr.add; split <;> simp_all
    rw [e]
    refine cell_of hg0 ?_
    simpa [cOp] using hu
  · simp only [cOp, List.mem_cons, List.not_mem_nil, or_false] at hu
    rcases hu with rfl | rfl | rfl | rfl | rfl | rfl <;> rfl
  · intro v' w' hown hg _
    refine hK v' w' ?_ ?_ ?_
    · unfold RowO
      simpa [List.flatMap_append] using hown
    · exact ((Below.refl base W).alloc hbase _).grown hg (by simp; omega) (fun k e => (World.ownsRow.lt hrow k e).1)
    · refine (KeptOp.of_ext (ext_allocN W _)).trans ⟨hg.size, fun b ob hb hne => (hg.block b (lt_of_block hb) (fun e => ?_)).trans hb⟩
      rcases hrow.2 with ⟨rfl, _⟩ | ⟨g, cap, cur, rfl, _, hgb, _⟩
      · simp [Value.ownBlock] at e
      · obtain rfl : g = b := by simpa [Value.ownBlock] using e.symm
        rw [hgb] at hb
        exact hne _ _ (Option.some.inj hb).symm

/-- the states of a sequential history -/
def stQ (k z : Int) (cs : List (Int × Int)) : Nat → List Int
  | 0 => rIni k
  | j + 1 => match cs[j]? with
    | some c => (apR k z (stQ k z cs j) c.1 c.2).1
    | none => stQ k z cs j
def erQ (k z : Int) (cs : List (Int × Int)) (j : Nat) : Int := match cs[j]? with
  | some c => (apR k z (stQ k z cs j) c.1 c.2).2.2
  | none => 0
def clQ (k z : Int) (cs : List (Int × Int)) (j : Nat) : Cl := match cs[j]? with
  | some c => ⟨(j : Int) % 3, c.1, c.2, (apR k z (stQ k z cs j) c.1 c.2).2.1, 2 * (j : Int), 2 * (j : Int) + 1⟩
  | none => ⟨0, 0, 0, 0, 0, 0⟩
def hQ (k z : Int) (cs : List (Int × Int)) (j : Nat) : List Cl := (List.range j).map (clQ k z cs)
def okQ (k z : Int) (cs : List (Int × Int)) (j : Nat) : Bool := (List.range j).all fun i => decide (erQ k z cs i = 0)
theorem hQ_succ (k z : Int) (cs : List (Int × Int)) (j : Nat) : hQ k z cs (j + 1) = hQ k z cs j ++ [clQ k z cs j] := by simp [hQ, List.range_succ]
theorem okQ_succ (k z : Int) (cs : List (Int × Int)) (j : Nat) : okQ k z cs (j + 1) = (okQ k z cs j && decide (erQ k z cs j = 0)) := by simp [okQ, List.range_succ]
theorem okQ_no {k z : Int} {cs : List (Int × Int)} {j n : Nat} (h : j < n) (he : erQ k z cs j ≠ 0) : okQ k z cs n = false := by
  cases hc : okQ k z cs n with
  | false => rfl
  | true =>
    have := List.all_eq_true.1 hc j (List.mem_range.2 h)
    exact absurd (of_decide_eq_true this) he
theorem stQ_len {k z : Int} {cs : List (Int × Int)} {j : Nat} (h : okQ k z cs j = true) : (stQ k z cs j).length ≤ 101 := by
  cases j with
  | zero => unfold stQ rIni; split <;> simp
  | succ j =>
    rw [okQ_succ, Bool.and_eq_true] at h
    have he := of_decide_eq_true h.2
    unfold erQ at he
    unfold stQ
    have := stQ_len h.1
    cases hc : cs[j]? with
    | none => simp only [hc]; omega
    | some c =>
      simp only [hc] at he ⊢
      unfold apR at he ⊢
      by_cases h1 : mdE k z = 0
      · rw [if_neg (by simpa using h1)] at he ⊢
        cases hs : stR k z (stQ k z cs j) with
        | false => rw [if_pos hs] at he; simp at he
        | true =>
          rw [if_neg (by simp [hs])]
          have h2 := st_len hs
          have h3 := apM_len k z (stQ k z cs j) c.1 c.2
          omega
      · rw [if_pos h1] at he; exact absurd he h1
theorem hQ_len (k z : Int) (cs : List (Int × Int)) (j : Nat) : (hQ k z cs j).length = j := by simp [hQ]
/-- a sequential history of calls -/
theorem seq_hQ {k z : Int} {cs : List (Int × Int)} (hm : mdE k z = 0) (h : okQ k z cs cs.length = true) : SeqH k z (hQ k z cs cs.length) (stQ k z cs) cs.length := by
  have hg : ∀ i (hi : i < (hQ k z cs cs.length).length), (hQ k z cs cs.length)[i] = clQ k z cs i := fun i hi => by simp [hQ]
  have hq : ∀ i (hi : i < cs.length), clQ k z cs i = ⟨(i : Int) % 3, cs[i].1, cs[i].2, (apR k z (stQ k z cs i) cs[i].1 cs[i].2).2.1, 2 * (i : Int), 2 * (i : Int) + 1⟩ := fun i hi => by
    unfold clQ; rw [List.getElem?_eq_getElem hi]
  refine ⟨by rw [hQ_len]; exact Nat.le_refl _, rIni_eq hm, fun i hi => ?_, fun i hi => ?_, fun i hi hp => ?_⟩
  · rw [hg i hi, hq i (by rw [hQ_len] at hi; exact hi)]
  · rw [hg i hi, hq i (by rw [hQ_len] at hi; exact hi)]
  · rw [hg i hi, hq i hp]
    dsimp only
    have he := of_decide_eq_true (List.all_eq_true.1 h i (List.mem_range.2 hp))
    unfold erQ at he
    have hst : stQ k z cs (i + 1) = (apR k z (stQ k z cs i) cs[i].1 cs[i].2).1 := by
      rw [stQ, List.getElem?_eq_getElem hp]
    rw [hst]
    rw [List.getElem?_eq_getElem hp] at he
    dsimp only at he
    have ha : apR k z (stQ k z cs i) cs[i].1 cs[i].2 = apM k z (stQ k z cs i) cs[i].1 cs[i].2 := by
      unfold apR at he ⊢
      rw [if_neg (by simpa using hm)] at he ⊢
      cases hs : stR k z (stQ k z cs i) with
      | false => rw [if_pos hs] at he; simp at he
      | true => rw [if_neg (by simp)]
    rw [ha] at he ⊢
    exact Prod.ext rfl (Prod.ext rfl he)
end Go.Proofs.YtmbkjccckmlacaaDoor

namespace Go.Proofs.YtmbkjccckmlacaaDoor
open Go.RowKit
set_option linter.unusedVariables false
set_option linter.unusedSimpArgs false

theorem grH_leF {n : Nat} (h : grH n = false) : n ≤ 40 := by
  unfold grH at h
  simp at h
  omega
theorem cot_one {k z : Int} {l : List Cl} : cotR k z l 1 = (if (srhR k z l).2.1 = true then 1 else 0, (srhR k z l).2.2) := by
  rw [srh_e]
  unfold cotR
  by_cases h : srE k z l = 0
  · rw [if_neg (by simpa using h), if_neg (by omega), h]
    have e : (srhR k z l).2.1 = true ↔ 0 < cnt k z l (beg0 k) := by rw [srh_iff]; exact ⟨fun g => g.2, fun g => ⟨h, g⟩⟩
    by_cases hc : 0 < cnt k z l (beg0 k)
    · rw [if_pos (e.2 hc)]; congr 1; omega
    · rw [if_neg (fun g => hc (e.1 g))]; congr 1; omega
  · rw [if_pos h]
    have : ¬ (srhR k z l).2.1 = true := fun g => h (srh_iff.1 g).1
    rw [if_neg this]
theorem srh_no {k z : Int} {l : List Cl} (h : (srhR k z l).2.1 = false) : (srhR k z l).1 = [] := by
  unfold srhR at h ⊢
  split
  · rfl
  · next he =>
    rw [if_neg he] at h
    unfold serR at h ⊢
    split
    · rfl
    · next hc => rw [if_neg hc] at h; simp at h
theorem ser_len {k z : Int} {l : List Cl} : ∀ (f : Nat) (n : Nd), (serF k z l f n).length ≤ lft l n
  | 0, n => by simp [serF]
  | f + 1, n => by
    rw [serF]
    split
    · simp
    · split
      · next p hp =>
        have hx := (mem_nxs.1 (List.mem_of_find?_eq_some hp)).2
        have := ser_len (k := k) (z := z) (l := l) f p.2
        have := nxt_lft hx
        simp only [List.length_cons]; omega
      · simp
theorem srh_len {k z : Int} {l : List Cl} : (srhR k z l).1.length ≤ l.length := by
  unfold srhR
  split
  · simp
  · unfold serR
    split
    · simp
    · exact Nat.le_trans (ser_len _ _) (lft_le l _)
theorem IntsAt.take {w : World} {a : Option Addr} {l : List Int} (h : IntsAt w a l) (k : Nat) : IntsAt w a (l.take k) := fun i hi => by
  obtain ⟨b, off, e, hc⟩ := h i (by rw [List.length_take] at hi; omega)
  exact ⟨b, off, e, by rw [List.getElem_take]; exact hc⟩
set_option maxRecDepth 100000 in
set_option maxHeartbeats 4000000 in
theorem linearizeFinds_walk (k z : Int) (l : List Cl) (a : Option Addr) (c : Nat) (o : Option Addr) (lo co : Nat) (zs : List Int) (w : World) (hO : OpIn w a c l) (hZ : IsRow .i64 w o lo co zs) (hT : TabW w) :
    Gives Tryd.prog 7 #[.agg #[.int .i64 k, .int .i64 z], .slice a l.length c, .slice o lo co] w (.bool true) := by
  obtain ⟨hHs, hlc, hlm, -⟩ := hO
  obtain ⟨order, hol, hom, hoI, -⟩ := hZ.ints
  clear hZ
  unfold Gives
  have KA := Lib.hid (fun W (hW : Ext w W) => awake_any W (hT.below hW.below))
  have HX1 := Lib.hid (ext_allocN w (.cells #[.int .i64 k, .int .i64 z] 23))
  have HMD := Lib.hid (mdCells w k z)
  have KS := Lib.hid (fun W (hW : Ext w W) => Search_any k z l a c W (hHs.ext hW) hlm (hT.below hW.below))
  have KC := Lib.hid (fun W (hW : Ext w W) => Count_any k z l 1 a c W (hHs.ext hW) hlm (hT.below hW.below))
  have KG := Lib.hid (fun W => great_any l.length a c W)
  cases hg : grH l.length with
  | true =>
    rw [hg] at KG
    clear hlc hlm hHs hT KC KS hol hom hoI
    generalize l.length = len at *
    go_enter Tryd.func7, Tryd.ntmps7
    go_wp2_with fail
    refine (KG.out _).mono ?_
    intro w2 hE2
    have HE2 := Lib.hid (Ext.trans HX1.out hE2)
    clear hE2
    go_wp2_with fail
    refine (KA.out _ HE2.out).mono ?_
    intro w3 hE3
    have HE3 := Lib.hid (Ext.trans HE2.out hE3)
    clear hE3
    go_wp2
    go_ret
    exact ⟨rfl, HE3.out⟩
  | false =>
    have hl := grH_leF hg
    rw [hg] at KG
    by_cases h20 : 20 < lo
    · have d20 : decide ((20 : Int) < (lo : Int)) = true := by simp; omega
      clear hlc hlm hHs hT KC KS hol hoI h20
      unfold maxLen at hom
      generalize l.length = len at *
      go_enter Tryd.func7, Tryd.ntmps7
      go_wp2_with fail
      refine (KG.out _).mono ?_
      intro w2 hE2
      have HE2 := Lib.hid (Ext.trans HX1.out hE2)
      clear hE2
      go_wp2_with fail
      refine (KA.out _ HE2.out).mono ?_
      intro w3 hE3
      have HE3 := Lib.hid (Ext.trans HE2.out hE3)
      clear hE3
      go_wp2
      go_ret
      exact ⟨rfl, HE3.out⟩
    · have d20 : decide ((20 : Int) < (lo : Int)) = false := by simp; omega
      have KV := Lib.hid (fun W (hW : Ext w W) => show Gives Tryd.prog 21 #[.agg #[.int .i64 k, .int .i64 z], .slice a l.length c, .slice o lo co] W (.int .i64 (verR k z l order)) from by
        rw [← hol]; exact Verify_any k z l order a o c co W (hHs.ext hW) hlm (hoI.ext hW) (by omega))
      have KV2 := Lib.hid (fun W (hW : Ext w W) (m : List Int) (x : Option Addr) (cc : Nat) (hm : IntsAt W x m) (hml : m.length ≤ 1000) => Verify_any k z l m a x c cc W (hHs.ext hW) hlm hm hml)
      have HB := Lib.hid (fun (h : (srhR k z l).2.2 ≠ 0) => show verR k z l order = (srhR k z l).2.2 from by rw [srh_e] at h ⊢; exact ver_bad h order)
      have HFN := Lib.hid (fun (h : (srhR k z l).2.1 = false) => find_no h order)
      have HFV := Lib.hid (fun (h : (srhR k z l).2.1 = true) => find_ver h)
      have HNo := Lib.hid (fun (h : (srhR k z l).2.1 = false) => srh_no h)
      have HSL := Lib.hid (srh_len (k := k) (z := z) (l := l))
      have HIS := Lib.hid (fun (h : (srhR k z l).2.2 ≠ 0) => show (srhR k z l).2.1 = false from by
        rw [srh_e] at h
        cases hc : (srhR k z l).2.1 with
        | false => rfl
        | true => exact absurd (srh_iff.1 hc).1 h)
      rw [cot_one] at KC
      have HL40 := Lib.hid hl
      unfold maxLen at hom
      clear hlc hlm hHs hT hoI h20 hg hl
      generalize srhR k z l = S at *
      obtain ⟨s1, is, er⟩ := S
      unfold ShP at KS
      dsimp only at *
      generalize verR k z l order = vo at *
      obtain ⟨len, hlen⟩ : ∃ n, l.length = n := ⟨_, rfl⟩
      rw [hlen] at KS KC KG KV KV2 HL40 HSL ⊢
      clear hlen
      by_cases he : er = 0
      · subst he
        cases is with
        | false =>
          obtain rfl := HNo.out rfl
          have g5 : (vo != 0) = true := by rw [bne_iff_ne]; exact HFN.out rfl
          rw [if_neg (by simp)] at KC
          clear HB HFN HFV HNo HSL HIS KV2
          go_enter Tryd.func7, Tryd.ntmps7
          go_wp2_with fail
          refine (KG.out _).mono ?_
          intro w2 hE2
          obtain ⟨m0, m1⟩ := HMD.out w2 hE2
          have HX2 := Lib.hid hE2
          have HE2 := Lib.hid (Ext.trans HX1.out hE2)
          clear hE2
          go_wp2_with fail
          refine (KS.out _ HE2.out).mono ?_
          rintro e w3 ⟨v, rfl, hr, hE3⟩
          have HX3 := Lib.hid (Ext.trans HX2.out hE3)
          have HE3 := Lib.hid (Ext.trans HE2.out hE3)
          obtain ⟨x3, c3, rfl, -, -, -⟩ := hr.look
          clear hE3 hr m0 m1
          obtain ⟨m0, m1⟩ := HMD.out w3 HX3.out
          go_wp2_with fail
          refine (KC.out _ HE3.out).mono ?_
          intro w4 hE4
          have HX4 := Lib.hid (Ext.trans HX3.out hE4)
          have HE4 := Lib.hid (Ext.trans HE3.out hE4)
          clear hE4 m0 m1
          obtain ⟨m0, m1⟩ := HMD.out w4 HX4.out
          go_wp2_with fail
          refine (KV.out _ HE4.out).mono ?_
          intro w5 hE5
          have HE5 := Lib.hid (Ext.trans HE4.out hE5)
          clear hE5 m0 m1
          go_wp2_with fail
          refine (KA.out _ HE5.out).mono ?_
          intro w6 hE6
          have HE6 := Lib.hid (Ext.trans HE5.out hE6)
          clear hE6
          go_wp2
          go_ret
          exact ⟨rfl, HE6.out⟩
        | true =>
          obtain ⟨hv1, hv2⟩ := HFV.out rfl
          have HV1 := Lib.hid hv1
          have HV2 := Lib.hid hv2
          rw [if_pos rfl] at KC
          clear HB HFN HFV HNo HIS hv1 hv2 KV
          go_enter Tryd.func7, Tryd.ntmps7
          go_wp2_with fail
          refine (KG.out _).mono ?_
          intro w2 hE2
          obtain ⟨m0, m1⟩ := HMD.out w2 hE2
          have HX2 := Lib.hid hE2
          have HE2 := Lib.hid (Ext.trans HX1.out hE2)
          clear hE2
          go_wp2_with fail
          refine (KS.out _ HE2.out).mono ?_
          rintro e w3 ⟨v, rfl, hr, hE3⟩
          have HX3 := Lib.hid (Ext.trans HX2.out hE3)
          have HE3 := Lib.hid (Ext.trans HE2.out hE3)
          obtain ⟨x3, c3, rfl, hi3, hc3, -⟩ := hr.look
          have HI3 := Lib.hid hi3
          have HSL2 := Lib.hid (show (s1.map Int.ofNat).length ≤ 40 by rw [List.length_map]; exact Nat.le_trans HSL.out HL40.out)
          have HV2m := Lib.hid (fun j (hj : j < (s1.map Int.ofNat).length) => HV2.out j (by rw [List.length_map] at hj; exact hj))
          clear hE3 hr m0 m1 hi3 HV2 HSL
          generalize s1.map Int.ofNat = m at *
          obtain ⟨lm, hlm⟩ : ∃ n, m.length = n := ⟨_, rfl⟩
          rw [hlm] at hc3 ⊢
          have HLM := Lib.hid hlm
          have hlm40 : lm ≤ 40 := by rw [← HLM.out]; exact HSL2.out
          clear hlm
          obtain ⟨m0, m1⟩ := HMD.out w3 HX3.out
          go_wp2_with fail
          refine (KC.out _ HE3.out).mono ?_
          intro w4 hE4
          have HX4 := Lib.hid (Ext.trans HX3.out hE4)
          have HE34 := Lib.hid hE4
          have HE4 := Lib.hid (Ext.trans HE3.out hE4)
          clear hE4 m0 m1
          have HC3 := Lib.hid hc3
          go_wp2_with fail
          go_loopw [84] (fun i wr => ∃ j : Nat, j ≤ lm ∧ i = .int .i64 (j : Int) ∧ Ext w4 wr) (fun i _ => lm - (intOf i).toNat)
          case atStart => exact ⟨0, Nat.zero_le _, rfl, Below.refl _ _⟩
          case round =>
            obtain ⟨j, hj, rfl, hEr⟩ := hrel
            have HER := Lib.hid hEr
            clear hEr
            by_cases hlt : j < lm
            · have hjc : (j : Int) ≤ (c3 : Int) := by have := HC3.out; omega
              have hj0 : (0 : Int) ≤ (j : Int) := by omega
              have hjc2 : j ≤ c3 := by omega
              have htl : (m.take j).length = j := by rw [List.length_take, HLM.out]; omega
              have HVJ := Lib.hid (fun W (hW : Ext wr W) => show Gives Tryd.prog 21 #[.agg #[.int .i64 k, .int .i64 z], .slice a len c, .slice x3 j c3] W (.int .i64 (verR k z l (m.take j))) from by
                have := KV2.out W (Ext.trans HE4.out (Ext.trans HER.out hW)) (m.take j) x3 c3 ((HI3.out.ext (Ext.trans HE34.out (Ext.trans HER.out hW))).take j) (by omega)
                rw [htl] at this
                exact this)
              have g6 : (verR k z l (m.take j) == 0) = false := by simpa using HV2m.out j (by rw [HLM.out]; exact hlt)
              obtain ⟨m0, m1⟩ := HMD.out wr (Ext.trans HX4.out HER.out)
              clear htl
              generalize verR k z l (m.take j) = vj at *
              go_wp2_with fail
              go_still_tail 5, (by kernel_rfl)
              go_wp2_with fail
              have HEd := Lib.hid (show Ext wr wr.drew from Ext.drewN' (n := 1) (Below.refl _ _))
              refine (HVJ.out _ HEd.out).mono ?_
              intro w5 hE5
              have HE5 := Lib.hid (Ext.trans HER.out (Ext.trans HEd.out hE5))
              clear hE5 m0 m1
              go_wp2
              exact ⟨⟨j + 1, by omega, by go_num, HE5.out⟩, by simp [intOf]; omega⟩
            · have hjl : lm = j := by omega
              subst hjl
              have HEw := Lib.hid (Ext.trans HE4.out HER.out)
              have KV3 := Lib.hid (fun W (hW : Ext wr W) => show Gives Tryd.prog 21 #[.agg #[.int .i64 k, .int .i64 z], .slice a len c, .slice x3 lm c3] W (.int .i64 0) from by
                have := KV2.out W (Ext.trans HEw.out hW) m x3 c3 (HI3.out.ext (Ext.trans HE34.out (Ext.trans HER.out hW))) (by rw [HLM.out]; omega)
                rw [HLM.out, HV1.out] at this
                exact this)
              obtain ⟨m0, m1⟩ := HMD.out wr (Ext.trans HX4.out HER.out)
              go_wp2_with fail
              refine (KV3.out _ (Below.refl _ _)).mono ?_
              intro w5 hE5
              have HE5 := Lib.hid (Ext.trans HEw.out hE5)
              clear hE5 m0 m1
              go_wp2_with fail
              refine (KA.out _ HE5.out).mono ?_
              intro w6 hE6
              have HE6 := Lib.hid (Ext.trans HE5.out hE6)
              clear hE6
              go_wp2
              go_ret
              exact ⟨rfl, HE6.out⟩
      · have g1 : (er != 0) = true := by rw [bne_iff_ne]; exact he
        obtain rfl := HIS.out he
        obtain rfl := HNo.out rfl
        obtain rfl := (HB.out he)
        rw [if_neg (by simp)] at KC
        clear HB HFN HFV HNo HIS KV2 he
        go_enter Tryd.func7, Tryd.ntmps7
        go_wp2_with fail
        refine (KG.out _).mono ?_
        intro w2 hE2
        obtain ⟨m0, m1⟩ := HMD.out w2 hE2
        have HX2 := Lib.hid hE2
        have HE2 := Lib.hid (Ext.trans HX1.out hE2)
        clear hE2
        go_wp2_with fail
        refine (KS.out _ HE2.out).mono ?_
        rintro e w3 ⟨v, rfl, hr, hE3⟩
        have HX3 := Lib.hid (Ext.trans HX2.out hE3)
        have HE3 := Lib.hid (Ext.trans HE2.out hE3)
        obtain ⟨x3, c3, rfl, -, -, -⟩ := hr.look
        clear hE3 hr m0 m1
        obtain ⟨m0, m1⟩ := HMD.out w3 HX3.out
        go_wp2_with fail
        refine (KC.out _ HE3.out).mono ?_
        intro w4 hE4
        have HX4 := Lib.hid (Ext.trans HX3.out hE4)
        have HE4 := Lib.hid (Ext.trans HE3.out hE4)
        clear hE4 m0 m1
        obtain ⟨m0, m1⟩ := HMD.out w4 HX4.out
        go_wp2_with fail
        refine (KV.out _ HE4.out).mono ?_
        intro w5 hE5
        have HE5 := Lib.hid (Ext.trans HE4.out hE5)
        clear hE5 m0 m1
        go_wp2_with fail
        refine (KA.out _ HE5.out).mono ?_
        intro w6 hE6
        have HE6 := Lib.hid (Ext.trans HE5.out hE6)
        clear hE6
        go_wp2
        go_ret
        exact ⟨rfl, HE6.out⟩
end Go.Proofs.YtmbkjccckmlacaaDoor

namespace Go.Proofs.YtmbkjccckmlacaaDoor
open Go.RowKit
set_option linter.unusedVariables false
set_option linter.unusedSimpArgs false

theorem take_mem {l : List Int} {j : Nat} {x : Int} (h : j < l.length) : (x ∈ l.take (j + 1)) ↔ (x ∈ l.take j ∨ l[j] = x) := by
  rw [List.take_succ_eq_append_getElem h, List.mem_append, List.mem_singleton]
  exact or_congr Iff.rfl ⟨fun e => e.symm, fun e => e.symm⟩
set_option maxHeartbeats 1000000 in
theorem index_any (l : List Int) (x : Int) (a : Option Addr) (cap : Nat) (w : World) (hl : l.length ≤ 1000000) (h : IntsAt w a l) :
    Calls Tryd.prog 58 #[.slice a l.length cap, .int .i64 x] w fun e w' => (∃ r : Int, e = .returned (.int .i64 r) ∧ decide (0 ≤ r) = decide (x ∈ l)) ∧ Below w.heap.size w w' := by
  obtain ⟨n, hn⟩ : ∃ n, l.length = n := ⟨_, rfl⟩
  have HN := Lib.hid hn
  rw [hn] at hl ⊢
  clear hn
  go_enter Tryd.func58, Tryd.ntmps58
  go_wp2
  go_loopw [8] (fun i wr => ∃ j : Nat, j ≤ n ∧ i = .int .i64 j ∧ x ∉ l.take j ∧ Below w.heap.size w wr) (fun i _ => n - (intOf i).toNat)
  case atStart => exact ⟨0, Nat.zero_le _, rfl, by simp, Below.refl _ _⟩
  case round =>
    obtain ⟨j, hj, rfl, hA, hB⟩ := hrel
    have HA := Lib.hid hA
    have HB := Lib.hid hB
    clear hA hB
    by_cases hlt : j < n
    · have hjl : j < l.length := by rw [HN.out]; exact hlt
      obtain ⟨b, off, rfl, hc⟩ := (h.below HB.out).at hjl
      have HT := Lib.hid (take_mem (x := x) hjl)
      have HM := Lib.hid (show l[j] ∈ l from List.getElem_mem hjl)
      have hi0 : (0 : Int) ≤ (j : Int) := by omega
      have hi1 : (j : Int) < (n : Int) := by omega
      generalize l[j] = y at *
      by_cases hxy : x = y
      · have g1 : (x == y) = true := by simpa using hxy
        have HV := Lib.hid (show decide (x ∈ l) = true by rw [hxy]; exact decide_eq_true HM.out)
        clear hxy
        go_wp2
        go_ret
        exact ⟨⟨_, rfl, by rw [HV.out]; simp⟩, HB.out⟩
      · have g1 : (x == y) = false := by simpa using hxy
        have HV := Lib.hid (show x ∉ l.take (j + 1) from fun h => by
          rcases HT.out.1 h with h | h
          · exact HA.out h
          · exact hxy h.symm)
        clear hxy
        go_wp2
        exact ⟨⟨j + 1, by omega, by go_num, HV.out, HB.out⟩, by simp [intOf]; omega⟩
    · have hk : l.take j = l := List.take_of_length_le (by rw [HN.out]; omega)
      have HV := Lib.hid (show decide (x ∈ l) = false by rw [decide_eq_false_iff_not, ← hk]; exact HA.out)
      clear hk
      go_wp2
      go_ret
      exact ⟨⟨_, rfl, by rw [HV.out]; rfl⟩, HB.out⟩
theorem contains_any (l : List Int) (x : Int) (a : Option Addr) (cap : Nat) (w : World) (hl : l.length ≤ 1000000) (h : IntsAt w a l) :
    Gives Tryd.prog 27 #[.slice a l.length cap, .int .i64 x] w (.bool (decide (x ∈ l))) := by
  unfold Gives
  have C := Lib.hid (index_any l x a cap w hl h)
  generalize decide (x ∈ l) = b at *
  generalize l.length = n at *
  clear h
  go_enter Tryd.func27, Tryd.ntmps27
  go_wp2_with fail
  refine C.out.mono ?_
  rintro e w2 ⟨⟨r, rfl, hr⟩, hB2⟩
  go_wp2
  go_ret
  exact ⟨rfl, hB2⟩
end Go.Proofs.YtmbkjccckmlacaaDoor

