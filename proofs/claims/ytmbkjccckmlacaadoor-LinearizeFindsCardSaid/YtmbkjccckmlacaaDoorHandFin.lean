/- The statement LinearizeFindsCardSaid: for every input the law returns true, and the arguments read as before; the tables of the library that it lists are tied to the text. The frame round the walk of the law. (With it: linearize: Verify.; LinearizeFinds: what Search returns is verified, no proper beginning of it is; if it finds nothing, no order is verified, and Count is 0.) -/
import Derived.Stop.LaidErr
import Derived.Test.YtmbkjccckmlacaaDoorCards
import Derived.Test.YtmbkjccckmlacaaDoorTie
import Derived.WalkKit
import Derived.ProofKit
import Derived.OpenShut
import Derived.ShutString
import Derived.ChangeOld
import Derived.Below
import Derived.Deep.DeepHandedRow
import Derived.Lib.LaidTab
import Derived.Shelf.Vars
import Derived.Test.YtmbkjccckmlacaaDoorPart7

namespace Go.Proofs.YtmbkjccckmlacaaDoor
open Go.RowKit
set_option linter.unusedVariables false
set_option linter.unusedSimpArgs false

theorem ordE_in {nl : Nat} : ∀ (o : List Int) (s : Nat), ordE nl s o = 0 → ∀ i ∈ o, 0 ≤ i ∧ i < nl
  | [], _, _ => by simp
  | i :: t, s, h => by
    rw [ordE] at h
    split at h
    · omega
    · next h1 =>
      split at h
      · omega
      · intro x hx
        rcases List.mem_cons.1 hx with rfl | hx
        · omega
        · exact ordE_in t _ h x hx
theorem ordE_bad {nl s : Nat} {i : Int} {t : List Int} (h : i < 0 ∨ (nl : Int) ≤ i) : ordE nl s (i :: t) = 2 := by rw [ordE, if_pos h]
theorem ordE_twice {nl s q : Nat} {t : List Int} (h : q < nl) (hb : s.testBit q = true) : ordE nl s ((q : Int) :: t) = 6 := by
  rw [ordE, if_neg (by omega), Int.toNat_natCast, if_pos hb]
theorem ordE_step {nl s q : Nat} {t : List Int} (h : q < nl) (hb : s.testBit q = false) : ordE nl s ((q : Int) :: t) = ordE nl (s ||| 2 ^ q) t := by
  rw [ordE, if_neg (by omega), Int.toNat_natCast, if_neg (by simp [hb])]
theorem setO_step {s q : Nat} {t : List Int} : setO s ((q : Int) :: t) = setO (s ||| 2 ^ q) t := by simp [setO]
theorem folE_step {k z : Int} {l : List Cl} {n : Nd} {q : Nat} {t : List Int} (h : q < l.length) : folE k z l n ((q : Int) :: t) =
    if subM (bef l q) n.1 l.length = false then 9 else
      if (apM k z n.2 l[q].meth l[q].arg).2.2 ≠ 0 then (apM k z n.2 l[q].meth l[q].arg).2.2 else
      if l[q].en ≠ -1 ∧ (apM k z n.2 l[q].meth l[q].arg).2.1 ≠ l[q].res then 10 else folE k z l (n.1 ||| 2 ^ q, (apM k z n.2 l[q].meth l[q].arg).1) t := by
  rw [folE, Int.toNat_natCast, List.getElem?_eq_getElem h]
theorem or_lt {s q nl : Nat} (hs : s < 2 ^ nl) (hq : q < nl) : s ||| 2 ^ q < 2 ^ nl := Nat.or_lt_two_pow hs (Nat.pow_lt_pow_right (by omega) hq)
theorem mdCells (w : World) (k z : Int) : ∀ W, Ext (w.alloc (.cells #[.int .i64 k, .int .i64 z] 23)) W → W.cell? ⟨w.heap.size, 0, none⟩ = some (.int .i64 k) ∧ W.cell? ⟨w.heap.size, 1, none⟩ = some (.int .i64 z) := fun W hW => by
  have hb := (hW.below.block _ (lt_of_block (alloc_here w (.cells #[.int .i64 k, .int .i64 z] 23)))).trans (alloc_here w (.cells #[.int .i64 k, .int .i64 z] 23))
  exact ⟨cell_of hb rfl, cell_of hb rfl⟩
set_option maxRecDepth 100000 in
set_option maxHeartbeats 4000000 in
theorem Verify_any (k z : Int) (l : List Cl) (order : List Int) (a o : Option Addr) (c co : Nat) (w : World) (h : HsAt w a l) (hlen : l.length ≤ maxLen) (hO : IntsAt w o order) (hol : order.length ≤ 1000) :
    Gives Tryd.prog 21 #[.agg #[.int .i64 k, .int .i64 z], .slice a l.length c, .slice o order.length co] w (.int .i64 (verR k z l order)) := by
  unfold Gives
  have HX := Lib.hid (ext_allocN w (.cells #[.int .i64 k, .int .i64 z] 23))
  have HMD := Lib.hid (mdCells w k z)
  have HH := Lib.hid (fun W (hW : Ext w W) => h.ext hW)
  have HOI := Lib.hid (fun W (hW : Ext w W) => hO.ext hW)
  have HR := Lib.hid (show verR k z l order = if srE k z l ≠ 0 then srE k z l else if ordE l.length 0 order ≠ 0 then ordE l.length 0 order else if cmpl l (setO 0 order, []) = false then 7 else folE k z l (beg0 k) order from rfl)
  generalize verR k z l order = R at *
  obtain ⟨wk, hwk⟩ : ∃ W, W = w.alloc (.cells #[.int .i64 k, .int .i64 z] 23) := ⟨_, rfl⟩
  have hwk' := hwk.symm
  rw [hwk'] at HX HMD
  by_cases hb : srE k z l = 0
  · obtain ⟨hmd, hck, hl⟩ := srE_parts hb
    obtain ⟨hk1, hk6⟩ := mdE_k hmd
    have HR1 := Lib.hid (show R = if ordE l.length 0 order ≠ 0 then ordE l.length 0 order else if cmpl l (setO 0 order, []) = false then 7 else folE k z l (beg0 k) order by rw [HR.out, if_neg (by rw [hb]; simp)])
    have HN := Lib.hid (newS_ok k z l a c wk (HH.out wk HX.out) hb)
    have HEN := Lib.hid (ck_en hck)
    have HGB := Lib.hid (Gd.beg0 (z := z) l hmd)
    clear h hb hmd hck HR hwk hO
    obtain ⟨nl, hnl⟩ : ∃ n, l.length = n := ⟨_, rfl⟩
    have HNL := Lib.hid hnl
    obtain ⟨lo, hlo⟩ : ∃ n, order.length = n := ⟨_, rfl⟩
    have HLO := Lib.hid hlo
    rw [hlo] at hol ⊢
    have hl12 : nl ≤ 12 := by omega
    rw [hnl] at HN HR1 hlen ⊢
    clear hnl hlo hl
    obtain ⟨m0, m1⟩ := HMD.out wk (Below.refl _ _)
    go_enter Tryd.func21, Tryd.ntmps21
    go_wp2_with fail
    try rw [hwk']
    refine HN.out.mono ?_
    rintro e w1 ⟨A, rfl, hs, hp, hc1, hc2, hne, hm1, hm2, hE⟩
    have HS1 := Lib.hid hs
    have HE1 := Lib.hid (Ext.trans HX.out hE)
    have HX1 := Lib.hid hE
    clear hs hp hc1 hc2 hne hm1 hm2 hE m0 m1
    go_wp2_with fail
    go_loopw [9, 29] (fun sv i wr => ∃ (j s : Nat), j ≤ lo ∧ i = .int .i64 (j : Int) ∧ sv = .int .i64 (s : Int) ∧ s < 2 ^ nl ∧ ordE nl s (order.drop j) = ordE nl 0 order ∧ setO s (order.drop j) = setO 0 order ∧ Ext w1 wr) (fun _ i _ => lo - (intOf i).toNat)
    case atStart => exact ⟨0, 0, Nat.zero_le _, rfl, rfl, Nat.two_pow_pos _, rfl, rfl, Below.refl _ _⟩
    case round =>
      obtain ⟨j, s, hj, rfl, rfl, hs, hE0, hS0, hE⟩ := hrel
      have HEr := Lib.hid hE
      have HE0 := Lib.hid hE0
      have HS0 := Lib.hid hS0
      have HSL := Lib.hid hs
      clear hE hE0 hS0 hs
      by_cases hlt : j < lo
      · have hjl : j < order.length := by rw [HLO.out]; exact hlt
        have HD := Lib.hid (List.drop_eq_getElem_cons hjl)
        obtain ⟨b, off, hob, hcell⟩ := (HOI.out wr (Ext.trans HE1.out HEr.out)).at hjl
        subst hob
        have hi0 : (0 : Int) ≤ (j : Int) := by omega
        have hi1 : (j : Int) < (lo : Int) := by omega
        generalize order[j] = i at *
        by_cases hn : i < 0
        · have d1 : decide (i < 0) = true := by simpa using hn
          have HRv := Lib.hid (show R = 2 by
            have e : ordE nl 0 order = 2 := by rw [← HE0.out, HD.out, ordE_bad (Or.inl hn)]
            rw [HR1.out, if_pos (by rw [e]; simp), e])
          clear hn
          go_wp2
          go_ret
          exact ⟨by rw [HRv.out]; rfl, Ext.trans HE1.out HEr.out⟩
        · have d1 : decide (i < 0) = false := by simpa using hn
          by_cases hm : (nl : Int) ≤ i
          · have d2 : decide ((nl : Int) ≤ i) = true := by simpa using hm
            have HRv := Lib.hid (show R = 2 by
              have e : ordE nl 0 order = 2 := by rw [← HE0.out, HD.out, ordE_bad (Or.inr hm)]
              rw [HR1.out, if_pos (by rw [e]; simp), e])
            clear hn hm
            go_wp2
            go_ret
            exact ⟨by rw [HRv.out]; rfl, Ext.trans HE1.out HEr.out⟩
          · obtain ⟨q, rfl⟩ : ∃ q : Nat, i = (q : Int) := ⟨i.toNat, by omega⟩
            have d2 : decide ((nl : Int) ≤ (q : Int)) = false := by simpa using hm
            have d3 : decide (nl ≤ q) = false := by simp; omega
            have hq : q < nl := by omega
            have hsh := shl_one (i := q) (by omega)
            have hs62 := pow_le62 HSL.out hl12
            have hand := i64_and s (2 ^ q) hs62 (pow_small (by omega))
            have hor := i64_or s (2 ^ q) hs62 (pow_small (by omega))
            have HT := Lib.hid (and_pow_zero s q)
            have HOL := Lib.hid (or_lt HSL.out hq)
            have HTW := Lib.hid (fun (hb : s.testBit q = true) => show ordE nl 0 order = 6 by rw [← HE0.out, HD.out, ordE_twice hq hb])
            have HSP := Lib.hid (fun (hb : s.testBit q = false) => show ordE nl (s ||| 2 ^ q) (order.drop (j + 1)) = ordE nl 0 order by rw [← HE0.out, HD.out, ordE_step hq hb])
            have HSO := Lib.hid (show setO (s ||| 2 ^ q) (order.drop (j + 1)) = setO 0 order by rw [← HS0.out, HD.out, setO_step])
            have hq0 : (0 : Int) ≤ (q : Int) := by omega
            have hq64 : (q : Int) ≤ 64 := by omega
            generalize hTT : s &&& 2 ^ q = T at *
            generalize hOO : s ||| 2 ^ q = O at *
            generalize hP2 : 2 ^ q = P2 at *
            clear hn hm hTT hOO hP2 hq hs62
            cases hbit : s.testBit q with
            | true =>
              have g1 : ((T : Int) != 0) = true := by
                have : ¬ T = 0 := fun e => by rw [HT.out.1 e] at hbit; cases hbit
                rw [bne_iff_ne]; omega
              have HRv := Lib.hid (show R = 6 by rw [HR1.out, if_pos (by rw [HTW.out hbit]; simp), HTW.out hbit])
              clear hbit
              go_wp2
              go_ret
              exact ⟨by rw [HRv.out]; rfl, Ext.trans HE1.out HEr.out⟩
            | false =>
              have g1 : ((T : Int) != 0) = false := by rw [HT.out.2 hbit]; rfl
              have HSQ := Lib.hid (HSP.out hbit)
              clear hbit
              go_wp2
              exact ⟨⟨j + 1, O, by omega, by go_num, rfl, HOL.out, HSQ.out, HSO.out, HEr.out⟩, by simp [intOf]; omega⟩
      · have hjl : lo = j := by omega
        subst hjl
        have hz0 : ordE nl 0 order = 0 := by rw [← HE0.out, List.drop_of_length_le (by rw [HLO.out]; exact Nat.le_refl _)]; rfl
        have hs0 : setO 0 order = s := by rw [← HS0.out, List.drop_of_length_le (by rw [HLO.out]; exact Nat.le_refl _)]; rfl
        have HR2 := Lib.hid (show R = if cmpl l (s, []) = false then 7 else folE k z l (beg0 k) order by rw [HR1.out, if_neg (by rw [hz0]; simp), hs0])
        have HIN := Lib.hid (ordE_in order 0 hz0)
        obtain ⟨w2, rfl⟩ : ∃ W, W = wr := ⟨_, rfl⟩
        have HS2 := Lib.hid (HS1.out.ext HEr.out)
        have HE2 := Lib.hid (Ext.trans HE1.out HEr.out)
        have HX2 := Lib.hid (Ext.trans HX1.out HEr.out)
        have hs62 := pow_le62 HSL.out hl12
        have hmu62 := pow_le62 (by have := must_lt l; rw [HNL.out] at this; exact this) hl12
        have handn := i64_andNot (must l) s hmu62 hs62
        have HU := Lib.hid (show andN (must l) s = 0 ↔ cmpl l (s, []) = true from by
          have := andN_zero (must_lt l) (b := s)
          unfold cmpl
          exact this)
        have hb := HS2.out.box
        have HBG := Lib.hid (begin_any HS2.out)
        obtain ⟨p, c1, c2, la, lc, g⟩ := A
        dsimp only at *
        have q4 := cell_of hb (i := 4) rfl
        clear hz0 hs0 HR1 hb HE0 HS0 hs62 hmu62
        generalize andN (must l) s = U at *
        generalize must l = mu at *
        cases hc : cmpl l (s, []) with
        | false =>
          have g1 : ((U : Int) != 0) = true := by
            have : ¬ U = 0 := fun e => by rw [HU.out.1 e] at hc; cases hc
            rw [bne_iff_ne]; omega
          have HRv := Lib.hid (show R = 7 by rw [HR2.out, if_pos hc])
          clear hc
          go_wp2
          go_ret
          exact ⟨by rw [HRv.out]; rfl, HE2.out⟩
        | true =>
          have g1 : ((U : Int) != 0) = false := by rw [HU.out.2 hc]; rfl
          have HR3 := Lib.hid (show R = folE k z l (beg0 k) order by rw [HR2.out, if_neg (by rw [hc]; simp)])
          clear hc HR2 HU
          go_wp2_with fail
          refine HBG.out.mono ?_
          rintro e w3 ⟨a3, c3, rfl, h3, hc3, hE3⟩
          have H3 := Lib.hid h3
          have HE3 := Lib.hid (Ext.trans HE2.out hE3)
          have HX3 := Lib.hid (Ext.trans HX2.out hE3)
          have HE23 := Lib.hid hE3
          clear h3 hE3
          have HGB2 := Lib.hid HGB.out
          have HR4 := Lib.hid HR3.out.symm
          generalize beg0 k = n0 at *
          obtain ⟨s0, L0⟩ := n0
          dsimp only at *
          have HAL := Lib.hid (ext_allocN w3 (.cells #[.int .i64 (s0 : Int), .slice a3 L0.length c3] tNd))
          have HAH := Lib.hid (alloc_here w3 (.cells #[.int .i64 (s0 : Int), .slice a3 L0.length c3] tNd))
          have HST := Lib.hid (show ∃ (j s : Nat) (L : List Int) (a2 : Option Addr) (c2 : Nat), j ≤ lo ∧ Value.int .i64 0 = .int .i64 (j : Int) ∧ Gd k z l (s, L) ∧ folE k z l (s, L) (order.drop j) = R ∧ IntsAt (w3.alloc (.cells #[.int .i64 (s0 : Int), .slice a3 L0.length c3] tNd)) a2 L ∧ L.length ≤ c2 ∧ (L ≠ [] → ∀ x, a2 = some x → x.block ≠ w3.heap.size) ∧ (w3.alloc (.cells #[.int .i64 (s0 : Int), .slice a3 L0.length c3] tNd)).heap[w3.heap.size]? = some (.cells #[.int .i64 (s : Int), .slice a2 L.length c2] tNd (0, 0)) ∧ Ext w3 (w3.alloc (.cells #[.int .i64 (s0 : Int), .slice a3 L0.length c3] tNd)) from by
            refine ⟨0, s0, L0, a3, c3, Nat.zero_le _, rfl, HGB2.out, HR4.out, H3.out.ext HAL.out, hc3, fun hne x e => ?_, HAH.out, HAL.out⟩
            obtain ⟨b, of, e2, hcc⟩ := H3.out 0 (by cases L0 with | nil => exact absurd rfl hne | cons => simp)
            rw [e] at e2
            cases e2
            have := cell_lt hcc
            dsimp only at this
            intro h0
            dsimp only at h0
            omega)
          clear hc3
          go_wp2_with fail
          go_loopw [62] (fun i wr => ∃ (j s : Nat) (L : List Int) (a2 : Option Addr) (c2 : Nat), j ≤ lo ∧ i = .int .i64 (j : Int) ∧ Gd k z l (s, L) ∧ folE k z l (s, L) (order.drop j) = R ∧ IntsAt wr a2 L ∧ L.length ≤ c2 ∧ (L ≠ [] → ∀ x, a2 = some x → x.block ≠ w3.heap.size) ∧ wr.heap[w3.heap.size]? = some (.cells #[.int .i64 (s : Int), .slice a2 L.length c2] tNd (0, 0)) ∧ Ext w3 wr) (fun i _ => lo - (intOf i).toNat)
          case atStart => exact HST.out
          case round =>
            obtain ⟨j, s, L, a2, c2, hj, rfl, hgd, hfo, hIa, hca, hna, hbx, hEr⟩ := hrel
            have HGD := Lib.hid hgd
            have HFO := Lib.hid hfo
            have HIA := Lib.hid hIa
            have HCA := Lib.hid hca
            have HNA := Lib.hid hna
            have HBX := Lib.hid hbx
            have HER := Lib.hid hEr
            clear hgd hfo hIa hca hna hbx hEr HST HAL HAH
            by_cases hlt : j < lo
            · have hjl : j < order.length := by rw [HLO.out]; exact hlt
              have HD := Lib.hid (List.drop_eq_getElem_cons hjl)
              have hin := HIN.out _ (List.getElem_mem hjl)
              obtain ⟨b, off, hob, hcell⟩ := (HOI.out wr (Ext.trans HE3.out HER.out)).at hjl
              have hi0 : (0 : Int) ≤ (j : Int) := by omega
              have hi1 : (j : Int) < (lo : Int) := by omega
              generalize order[j] = i at *
              obtain ⟨q, rfl⟩ : ∃ q : Nat, i = (q : Int) := ⟨i.toNat, by omega⟩
              have hqn : q < nl := by omega
              have hql : q < l.length := by rw [HNL.out]; exact hqn
              have HFE := Lib.hid (show (if subM (bef l q) s l.length = false then 9 else
                if (apM k z L l[q].meth l[q].arg).2.2 ≠ 0 then (apM k z L l[q].meth l[q].arg).2.2 else
                if l[q].en ≠ -1 ∧ (apM k z L l[q].meth l[q].arg).2.1 ≠ l[q].res then 10 else folE k z l (s ||| 2 ^ q, (apM k z L l[q].meth l[q].arg).1) (order.drop (j + 1))) = R by
                rw [← HFO.out, HD.out, folE_step hql])
              have HSS := Lib.hid (show s < 2 ^ nl by have := HGD.out.lt; rw [HNL.out] at this; exact this)
              have HLS := Lib.hid (show stR k z L = true from HGD.out.st)
              have HAP := Lib.hid (fun W (hW : Ext wr W) => apply_any k z L l[q].meth l[q].arg a2 c2 W hk1 hk6 HLS.out (HIA.out.ext hW) HCA.out)
              have HAK := Lib.hid (fun (h : (apM k z L l[q].meth l[q].arg).2.2 = 0) => stR_ap (a := l[q].arg) (m := l[q].meth) hk1 hk6 HLS.out h)
              have HEQ := Lib.hid (HEN.out q hql)
              have HCL := Lib.hid (fun W (hW : Ext wr W) => (HH.out W (Ext.trans HE3.out (Ext.trans HER.out hW))) q hql)
              obtain ⟨bl, ol, hla, x0, x1, x2, x3, x4, x5⟩ := HCL.out wr (Below.refl _ _)
              subst hla hob
              have HCM := Lib.hid (fun W (hW : Ext wr W) => show Cl.cells W bl (ol + q * 6) l[q] from by
                obtain ⟨b', o', e', hc'⟩ := HCL.out W hW
                cases e'
                exact hc')
              have hbi := bfO_get (bef l) l.length q hql
              have HBI := Lib.hid (fun W (hW : Ext wr W) => show (W.cell? ⟨p, 3, none⟩ = some (.slice (some ⟨g, 0, none⟩) nl nl)) ∧ W.cell? ⟨g, q, none⟩ = some (.int .i64 ((bef l q : Nat) : Int)) ∧ (W.cell? ⟨w3.heap.size, 0, none⟩ = some (.int .i64 (s : Int)) ∧ W.cell? ⟨w3.heap.size, 1, none⟩ = some (.slice a2 L.length c2)) ∧
                (W.cell? ⟨w.heap.size, 0, none⟩ = some (.int .i64 k) ∧ W.cell? ⟨w.heap.size, 1, none⟩ = some (.int .i64 z)) from by
                have hs := HS2.out.ext (show Ext w2 W from by have h1 := Ext.trans HE23.out (Ext.trans HER.out hW); exact h1)
                have hbx := (hW.below.block _ (lt_of_block HBX.out)).trans HBX.out
                rw [← HNL.out]
                exact ⟨cell_of hs.box rfl, cell_of hs.bf hbi, ⟨cell_of hbx rfl, cell_of hbx rfl⟩, HMD.out W (Ext.trans HX3.out (Ext.trans HER.out hW))⟩)
              have hU62 := pow_le62 HSS.out hl12
              have hand := i64_andNot (bef l q) s (pow_le62 (by have := bef_lt l q; rw [HNL.out] at this; exact this) hl12) hU62
              have hor := i64_or s (2 ^ q) hU62 (pow_small (by omega))
              have hsh := shl_one (i := q) (by omega)
              have HU := Lib.hid (andN_zero (bef_lt l q) (b := s))
              have HOL := Lib.hid (or_lt HSS.out hqn)
              generalize l[q] = x at *
              obtain ⟨tk, me, ar, re, be, en⟩ := x
              unfold Cl.cells at HCM
              dsimp only at *
              have hq0 : (0 : Int) ≤ (q : Int) := by omega
              have hq1 : (q : Int) < (nl : Int) := by omega
              have hq64 : (q : Int) ≤ 64 := by omega
              obtain ⟨y3, yg, ⟨n0, n1⟩, m0, m1⟩ := HBI.out wr (Below.refl _ _)
              clear hbi hU62 hin hjl hql
              generalize hUU : andN (bef l q) s = U at *
              generalize bef l q = bf at *
              generalize hOO : s ||| 2 ^ q = O at *
              generalize hP2 : 2 ^ q = P2 at *
              clear hUU hOO hP2
              cases hsub : subM bf s l.length with
              | false =>
                have g2 : ((U : Int) != 0) = true := by
                  have : ¬ U = 0 := fun e => by rw [HU.out.1 e] at hsub; cases hsub
                  rw [bne_iff_ne]; omega
                have HRv := Lib.hid (show R = 9 by rw [← HFE.out, if_pos hsub])
                clear hsub
                go_wp2_with fail
                go_quiet (fail)
                go_wp2
                go_ret
                exact ⟨by rw [HRv.out]; rfl, Ext.drewN' (Ext.trans HE3.out HER.out)⟩
              | true =>
                have g2 : ((U : Int) != 0) = false := by rw [HU.out.2 hsub]; rfl
                have HF2 := Lib.hid (show (if (apM k z L me ar).2.2 ≠ 0 then (apM k z L me ar).2.2 else if en ≠ -1 ∧ (apM k z L me ar).2.1 ≠ re then 10 else folE k z l (O, (apM k z L me ar).1) (order.drop (j + 1))) = R by
                  have := HFE.out
                  rw [if_neg (by rw [hsub]; simp)] at this
                  exact this)
                clear hsub HFE
                generalize apM k z L me ar = Z at *
                go_wp2_with fail
                go_quiet (fail)
                generalize hwz : wr.drewN nq = wz at *
                have HEz := Lib.hid (show Ext wr wz by rw [← hwz]; exact Ext.drewN' (Below.refl _ _))
                clear hwz y3 yg n0 n1 m0 m1 x0 x1 x2 x3 x4 x5
                obtain ⟨L1, rs, er⟩ := Z
                dsimp only at *
                obtain ⟨y3, yg, ⟨n0, n1⟩, m0, m1⟩ := HBI.out wz HEz.out
                obtain ⟨x0, x1, x2, x3, x4, x5⟩ := HCM.out wz HEz.out
                go_wp2_with fail
                refine wp_region_tail (l1 := [_, _, _, _, _, _, _, _, _, _, _, _, _, _, _, _, _, _, _, _]) (l2 := [_]) (by kernel_rfl) Ext (fun W => Below.refl _ W) (fun W => show Below W.heap.size W { W with drawn := W.drawn + 1 } from ⟨rfl, rfl, rfl, Nat.le_refl _, fun _ _ => rfl⟩) Ext.trans
                  (fun i s W => match i with
                    | 0 => s 0 = .agg #[.int .i64 k, .int .i64 z]
                    | 1 => s 1 = .pointer (some ⟨w3.heap.size, 1, none⟩)
                    | 2 => s 2 = .slice a2 L.length c2
                    | 3 => s 3 = .slice (some ⟨bl, ol, none⟩) nl c
                    | 4 => s 4 = .int .i64 (q : Int)
                    | 5 => s 5 = .pointer (some ⟨bl, ol + q * 6, none⟩)
                    | 6 => s 6 = .pointer (some ⟨bl, ol + q * 6 + 1, none⟩)
                    | 7 => s 7 = .int .i64 me
                    | 8 => s 8 = .slice (some ⟨bl, ol, none⟩) nl c
                    | 9 => s 9 = .int .i64 (q : Int)
                    | 10 => s 10 = .pointer (some ⟨bl, ol + q * 6, none⟩)
                    | 11 => s 11 = .pointer (some ⟨bl, ol + q * 6 + 2, none⟩)
                    | 12 => s 12 = .int .i64 ar
                    | 13 => ∃ a1 cc1, s 13 = .tuple #[.slice a1 L1.length cc1, .int .i64 rs, .int .i64 er] ∧ IntsAt W a1 L1 ∧ L1.length ≤ cc1 ∧ Frm wz a2 L a1 L1
                    | 14 => ∃ a1 cc1, s 14 = .tuple #[.slice a1 L1.length cc1, .int .i64 rs, .int .i64 er] ∧ IntsAt W a1 L1 ∧ L1.length ≤ cc1 ∧ Frm wz a2 L a1 L1
                    | 15 => ∃ a1 cc1, s 15 = .slice a1 L1.length cc1 ∧ IntsAt W a1 L1 ∧ L1.length ≤ cc1 ∧ Frm wz a2 L a1 L1
                    | 16 => s 16 = .int .i64 rs
                    | 17 => s 17 = .int .i64 er
                    | 18 => ∃ a1 cc1, s 18 = .slice a1 L1.length cc1 ∧ IntsAt W a1 L1 ∧ L1.length ≤ cc1 ∧ Frm wz a2 L a1 L1
                    | 19 => s 19 = .int .i64 rs
                    | _ => True)
                  (fun i => [i])
                  (by
                    intro i s s' W W' h hs hE
                    have hs := hs i (by simp)
                    match i, h, hs with
                    | 0, h, hs => exact hs.trans h
                    | 1, h, hs => exact hs.trans h
                    | 2, h, hs => exact hs.trans h
                    | 3, h, hs => exact hs.trans h
                    | 4, h, hs => exact hs.trans h
                    | 5, h, hs => exact hs.trans h
                    | 6, h, hs => exact hs.trans h
                    | 7, h, hs => exact hs.trans h
                    | 8, h, hs => exact hs.trans h
                    | 9, h, hs => exact hs.trans h
                    | 10, h, hs => exact hs.trans h
                    | 11, h, hs => exact hs.trans h
                    | 12, h, hs => exact hs.trans h
                    | 13, ⟨a1, cc1, h, h1, h2, h3⟩, hs => exact ⟨a1, cc1, hs.trans h, h1.ext hE, h2, h3⟩
                    | 14, ⟨a1, cc1, h, h1, h2, h3⟩, hs => exact ⟨a1, cc1, hs.trans h, h1.ext hE, h2, h3⟩
                    | 15, ⟨a1, cc1, h, h1, h2, h3⟩, hs => exact ⟨a1, cc1, hs.trans h, h1.ext hE, h2, h3⟩
                    | 16, h, hs => exact hs.trans h
                    | 17, h, hs => exact hs.trans h
                    | 18, ⟨a1, cc1, h, h1, h2, h3⟩, hs => exact ⟨a1, cc1, hs.trans h, h1.ext hE, h2, h3⟩
                    | 19, h, hs => exact hs.trans h
                    | i + 20, h, hs => exact trivial)
                  (by kernel_rfl) (by kernel_rfl) (by kernel_rfl) 121 rfl (by kernel_rfl) (by kernel_rfl) ?_ ?_
                · intro i op ho a' W hA
                  obtain ⟨y3, yg, ⟨n0, n1⟩, m0, m1⟩ := HBI.out W (Ext.trans HEz.out hA.rel)
                  obtain ⟨x0, x1, x2, x3, x4, x5⟩ := HCM.out W (Ext.trans HEz.out hA.rel)
                  match i, ho with
                  | 0, ho =>
                    obtain rfl := Option.some.inj ho
                    have e1 : a'.eval (.tmp 3) = .pointer (some ⟨w.heap.size, 0, none⟩) := hA.keep 3 (by kernel_rfl)
                    refine GoesG.value (.agg #[.int .i64 k, .int .i64 z]) rfl ?_ (Below.refl _ _) (fun s h1 h2 => h1 rfl)
                    simp only [execOp, e1]
                    simp [go_sem, m0, m1, n1, x1, x2, hq0, hq1]
                  | 1, ho =>
                    obtain rfl := Option.some.inj ho
                    have e1 : a'.eval (.tmp 12) = .pointer (some ⟨w3.heap.size, 0, none⟩) := hA.keep 12 (by kernel_rfl)
                    refine GoesG.value (.pointer (some ⟨w3.heap.size, 1, none⟩)) rfl ?_ (Below.refl _ _) (fun s h1 h2 => h1 rfl)
                    simp only [execOp, e1]
                    simp [go_sem, m0, m1, n1, x1, x2, hq0, hq1]
                  | 2, ho =>
                    obtain rfl := Option.some.inj ho
                    have e1 : a'.eval (.tmp 79) = .pointer (some ⟨w3.heap.size, 1, none⟩) := (sv_dst (l := _) rfl).symm.trans (hA.new 1 (by decide) (by kernel_rfl))
                    refine GoesG.value (.slice a2 L.length c2) rfl ?_ (Below.refl _ _) (fun s h1 h2 => h1 rfl)
                    simp only [execOp, e1]
                    simp [go_sem, m0, m1, n1, x1, x2, hq0, hq1]
                  | 3, ho =>
                    obtain rfl := Option.some.inj ho
                    have e1 : a'.eval (.tmp 1) = .slice (some ⟨bl, ol, none⟩) nl c := hA.keep 1 (by kernel_rfl)
                    refine GoesG.value (.slice (some ⟨bl, ol, none⟩) nl c) rfl ?_ (Below.refl _ _) (fun s h1 h2 => h1 rfl)
                    simp only [execOp, e1]
                    simp [go_sem, m0, m1, n1, x1, x2, hq0, hq1]
                  | 4, ho =>
                    obtain rfl := Option.some.inj ho
                    have e1 : a'.eval (.tmp 14) = .int .i64 (q : Int) := hA.keep 14 (by kernel_rfl)
                    refine GoesG.value (.int .i64 (q : Int)) rfl ?_ (Below.refl _ _) (fun s h1 h2 => h1 rfl)
                    simp only [execOp, e1]
                    simp [go_sem, m0, m1, n1, x1, x2, hq0, hq1]
                  | 5, ho =>
                    obtain rfl := Option.some.inj ho
                    have e1 : a'.eval (.tmp 81) = .slice (some ⟨bl, ol, none⟩) nl c := (sv_dst (l := _) rfl).symm.trans (hA.new 3 (by decide) (by kernel_rfl))
                    have e2 : a'.eval (.tmp 82) = .int .i64 (q : Int) := (sv_dst (l := _) rfl).symm.trans (hA.new 4 (by decide) (by kernel_rfl))
                    refine GoesG.value (.pointer (some ⟨bl, ol + q * 6, none⟩)) rfl ?_ (Below.refl _ _) (fun s h1 h2 => h1 rfl)
                    simp only [execOp, e1, e2]
                    simp [go_sem, m0, m1, n1, x1, x2, hq0, hq1]
                  | 6, ho =>
                    obtain rfl := Option.some.inj ho
                    have e1 : a'.eval (.tmp 83) = .pointer (some ⟨bl, ol + q * 6, none⟩) := (sv_dst (l := _) rfl).symm.trans (hA.new 5 (by decide) (by kernel_rfl))
                    refine GoesG.value (.pointer (some ⟨bl, ol + q * 6 + 1, none⟩)) rfl ?_ (Below.refl _ _) (fun s h1 h2 => h1 rfl)
                    simp only [execOp, e1]
                    simp [go_sem, m0, m1, n1, x1, x2, hq0, hq1]
                  | 7, ho =>
                    obtain rfl := Option.some.inj ho
                    have e1 : a'.eval (.tmp 84) = .pointer (some ⟨bl, ol + q * 6 + 1, none⟩) := (sv_dst (l := _) rfl).symm.trans (hA.new 6 (by decide) (by kernel_rfl))
                    refine GoesG.value (.int .i64 me) rfl ?_ (Below.refl _ _) (fun s h1 h2 => h1 rfl)
                    simp only [execOp, e1]
                    simp [go_sem, m0, m1, n1, x1, x2, hq0, hq1]
                  | 8, ho =>
                    obtain rfl := Option.some.inj ho
                    have e1 : a'.eval (.tmp 1) = .slice (some ⟨bl, ol, none⟩) nl c := hA.keep 1 (by kernel_rfl)
                    refine GoesG.value (.slice (some ⟨bl, ol, none⟩) nl c) rfl ?_ (Below.refl _ _) (fun s h1 h2 => h1 rfl)
                    simp only [execOp, e1]
                    simp [go_sem, m0, m1, n1, x1, x2, hq0, hq1]
                  | 9, ho =>
                    obtain rfl := Option.some.inj ho
                    have e1 : a'.eval (.tmp 14) = .int .i64 (q : Int) := hA.keep 14 (by kernel_rfl)
                    refine GoesG.value (.int .i64 (q : Int)) rfl ?_ (Below.refl _ _) (fun s h1 h2 => h1 rfl)
                    simp only [execOp, e1]
                    simp [go_sem, m0, m1, n1, x1, x2, hq0, hq1]
                  | 10, ho =>
                    obtain rfl := Option.some.inj ho
                    have e1 : a'.eval (.tmp 86) = .slice (some ⟨bl, ol, none⟩) nl c := (sv_dst (l := _) rfl).symm.trans (hA.new 8 (by decide) (by kernel_rfl))
                    have e2 : a'.eval (.tmp 87) = .int .i64 (q : Int) := (sv_dst (l := _) rfl).symm.trans (hA.new 9 (by decide) (by kernel_rfl))
                    refine GoesG.value (.pointer (some ⟨bl, ol + q * 6, none⟩)) rfl ?_ (Below.refl _ _) (fun s h1 h2 => h1 rfl)
                    simp only [execOp, e1, e2]
                    simp [go_sem, m0, m1, n1, x1, x2, hq0, hq1]
                  | 11, ho =>
                    obtain rfl := Option.some.inj ho
                    have e1 : a'.eval (.tmp 88) = .pointer (some ⟨bl, ol + q * 6, none⟩) := (sv_dst (l := _) rfl).symm.trans (hA.new 10 (by decide) (by kernel_rfl))
                    refine GoesG.value (.pointer (some ⟨bl, ol + q * 6 + 2, none⟩)) rfl ?_ (Below.refl _ _) (fun s h1 h2 => h1 rfl)
                    simp only [execOp, e1]
                    simp [go_sem, m0, m1, n1, x1, x2, hq0, hq1]
                  | 12, ho =>
                    obtain rfl := Option.some.inj ho
                    have e1 : a'.eval (.tmp 89) = .pointer (some ⟨bl, ol + q * 6 + 2, none⟩) := (sv_dst (l := _) rfl).symm.trans (hA.new 11 (by decide) (by kernel_rfl))
                    refine GoesG.value (.int .i64 ar) rfl ?_ (Below.refl _ _) (fun s h1 h2 => h1 rfl)
                    simp only [execOp, e1]
                    simp [go_sem, m0, m1, n1, x1, x2, hq0, hq1]
                  | 13, ho =>
                    obtain rfl := Option.some.inj ho
                    have e1 : a'.eval (.tmp 78) = .agg #[.int .i64 k, .int .i64 z] := (sv_dst (l := _) rfl).symm.trans (hA.new 0 (by decide) (by kernel_rfl))
                    have e2 : a'.eval (.tmp 80) = .slice a2 L.length c2 := (sv_dst (l := _) rfl).symm.trans (hA.new 2 (by decide) (by kernel_rfl))
                    have e3 : a'.eval (.tmp 85) = .int .i64 me := (sv_dst (l := _) rfl).symm.trans (hA.new 7 (by decide) (by kernel_rfl))
                    have e4 : a'.eval (.tmp 90) = .int .i64 ar := (sv_dst (l := _) rfl).symm.trans (hA.new 12 (by decide) (by kernel_rfl))
                    refine GoesG.call 45 #[.agg #[.int .i64 k, .int .i64 z], .slice a2 L.length c2, .int .i64 me, .int .i64 ar] rfl ?_ ?_
                    · have en := enters_fn Tryd.func45 (by kernel_rfl) rfl
                      simp [Act.eval] at e1 e2 e3 e4
                      simp [execOp, go_sem, e1, e2, e3, e4, en]
                    · refine (HAP.out W (Ext.trans HEz.out hA.rel)).mono ?_
                      rintro e W2 ⟨a1, cc1, rfl, h1, h2, h3, h4⟩
                      exact ⟨_, rfl, h3, fun s g1 g2 => ⟨a1, cc1, g1 rfl, h1, h2, h4.up hA.rel⟩⟩
                  | 14, ho =>
                    obtain rfl := Option.some.inj ho
                    obtain ⟨a1, cc1, e0, h1, h2, h3⟩ := hA.new 13 (by decide) (by kernel_rfl)
                    have e1 : a'.eval (.tmp 91) = .tuple #[.slice a1 L1.length cc1, .int .i64 rs, .int .i64 er] := (sv_dst (l := _) rfl).symm.trans e0
                    refine GoesG.value (.tuple #[.slice a1 L1.length cc1, .int .i64 rs, .int .i64 er]) rfl ?_ (Below.refl _ _) (fun s g1 g2 => ⟨a1, cc1, g1 rfl, h1, h2, h3⟩)
                    simp only [execOp, e1]
                    simp [go_sem]
                  | 15, ho =>
                    obtain rfl := Option.some.inj ho
                    obtain ⟨a1, cc1, e0, h1, h2, h3⟩ := hA.new 14 (by decide) (by kernel_rfl)
                    have e1 : a'.eval (.tmp 77) = .tuple #[.slice a1 L1.length cc1, .int .i64 rs, .int .i64 er] := (sv_dst (l := _) rfl).symm.trans e0
                    refine GoesG.value (.slice a1 L1.length cc1) rfl ?_ (Below.refl _ _) (fun s g1 g2 => ⟨a1, cc1, g1 rfl, h1, h2, h3⟩)
                    simp only [execOp, e1]
                    simp [go_sem]
                  | 16, ho =>
                    obtain rfl := Option.some.inj ho
                    obtain ⟨a1, cc1, e0, h1, h2, h3⟩ := hA.new 14 (by decide) (by kernel_rfl)
                    have e1 : a'.eval (.tmp 77) = .tuple #[.slice a1 L1.length cc1, .int .i64 rs, .int .i64 er] := (sv_dst (l := _) rfl).symm.trans e0
                    refine GoesG.value (.int .i64 rs) rfl ?_ (Below.refl _ _) (fun s g1 g2 => g1 rfl)
                    simp only [execOp, e1]
                    simp [go_sem]
                  | 17, ho =>
                    obtain rfl := Option.some.inj ho
                    obtain ⟨a1, cc1, e0, h1, h2, h3⟩ := hA.new 14 (by decide) (by kernel_rfl)
                    have e1 : a'.eval (.tmp 77) = .tuple #[.slice a1 L1.length cc1, .int .i64 rs, .int .i64 er] := (sv_dst (l := _) rfl).symm.trans e0
                    refine GoesG.value (.int .i64 er) rfl ?_ (Below.refl _ _) (fun s g1 g2 => g1 rfl)
                    simp only [execOp, e1]
                    simp [go_sem]
                  | 18, ho =>
                    obtain rfl := Option.some.inj ho
                    obtain ⟨a1, cc1, e0, h1, h2, h3⟩ := hA.new 15 (by decide) (by kernel_rfl)
                    have e1 : a'.eval (.tmp 92) = .slice a1 L1.length cc1 := (sv_dst (l := _) rfl).symm.trans e0
                    refine GoesG.value (.slice a1 L1.length cc1) rfl ?_ (Below.refl _ _) (fun s g1 g2 => ⟨a1, cc1, g1 rfl, h1, h2, h3⟩)
                    simp only [execOp, e1]
                    simp [go_sem]
                  | 19, ho =>
                    obtain rfl := Option.some.inj ho
                    have e1 : a'.eval (.tmp 93) = .int .i64 rs := (sv_dst (l := _) rfl).symm.trans (hA.new 16 (by decide) (by kernel_rfl))
                    refine GoesG.value (.int .i64 rs) rfl ?_ (Below.refl _ _) (fun s h1 h2 => h1 rfl)
                    simp only [execOp, e1]
                    simp [go_sem, m0, m1, n1, x1, x2, hq0, hq1]
                  | i + 20, ho => cases ho
                · intro vs w4 hvs hG hΦ
                  obtain ⟨y0, y1, y2, y3, y4, y5, y6, y7, y8, y9, y10, y11, y12, y13, y14, y15, y16, y17, y18, y19, rfl⟩ : ∃ y0 y1 y2 y3 y4 y5 y6 y7 y8 y9 y10 y11 y12 y13 y14 y15 y16 y17 y18 y19, vs = y0 :: y1 :: y2 :: y3 :: y4 :: y5 :: y6 :: y7 :: y8 :: y9 :: y10 :: y11 :: y12 :: y13 :: y14 :: y15 :: y16 :: y17 :: y18 :: y19 :: [] := by
                    match vs, hvs with
                    | y0 :: y1 :: y2 :: y3 :: y4 :: y5 :: y6 :: y7 :: y8 :: y9 :: y10 :: y11 :: y12 :: y13 :: y14 :: y15 :: y16 :: y17 :: y18 :: y19 :: [], _ => exact ⟨y0, y1, y2, y3, y4, y5, y6, y7, y8, y9, y10, y11, y12, y13, y14, y15, y16, y17, y18, y19, rfl⟩
                  have e0 : y0 = .agg #[.int .i64 k, .int .i64 z] := hΦ 0 (by decide)
                  subst e0
                  have e1 : y1 = .pointer (some ⟨w3.heap.size, 1, none⟩) := hΦ 1 (by decide)
                  subst e1
                  have e2 : y2 = .slice a2 L.length c2 := hΦ 2 (by decide)
                  subst e2
                  have e3 : y3 = .slice (some ⟨bl, ol, none⟩) nl c := hΦ 3 (by decide)
                  subst e3
                  have e4 : y4 = .int .i64 (q : Int) := hΦ 4 (by decide)
                  subst e4
                  have e5 : y5 = .pointer (some ⟨bl, ol + q * 6, none⟩) := hΦ 5 (by decide)
                  subst e5
                  have e6 : y6 = .pointer (some ⟨bl, ol + q * 6 + 1, none⟩) := hΦ 6 (by decide)
                  subst e6
                  have e7 : y7 = .int .i64 me := hΦ 7 (by decide)
                  subst e7
                  have e8 : y8 = .slice (some ⟨bl, ol, none⟩) nl c := hΦ 8 (by decide)
                  subst e8
                  have e9 : y9 = .int .i64 (q : Int) := hΦ 9 (by decide)
                  subst e9
                  have e10 : y10 = .pointer (some ⟨bl, ol + q * 6, none⟩) := hΦ 10 (by decide)
                  subst e10
                  have e11 : y11 = .pointer (some ⟨bl, ol + q * 6 + 2, none⟩) := hΦ 11 (by decide)
                  subst e11
                  have e12 : y12 = .int .i64 ar := hΦ 12 (by decide)
                  subst e12
                  have p13 : ∃ a1 cc1, y13 = .tuple #[.slice a1 L1.length cc1, .int .i64 rs, .int .i64 er] ∧ IntsAt w4 a1 L1 ∧ L1.length ≤ cc1 ∧ Frm wz a2 L a1 L1 := hΦ 13 (by decide)
                  have p14 : ∃ a1 cc1, y14 = .tuple #[.slice a1 L1.length cc1, .int .i64 rs, .int .i64 er] ∧ IntsAt w4 a1 L1 ∧ L1.length ≤ cc1 ∧ Frm wz a2 L a1 L1 := hΦ 14 (by decide)
                  have p15 : ∃ a1 cc1, y15 = .slice a1 L1.length cc1 ∧ IntsAt w4 a1 L1 ∧ L1.length ≤ cc1 ∧ Frm wz a2 L a1 L1 := hΦ 15 (by decide)
                  have e16 : y16 = .int .i64 rs := hΦ 16 (by decide)
                  subst e16
                  have e17 : y17 = .int .i64 er := hΦ 17 (by decide)
                  subst e17
                  have p18 : ∃ a1 cc1, y18 = .slice a1 L1.length cc1 ∧ IntsAt w4 a1 L1 ∧ L1.length ≤ cc1 ∧ Frm wz a2 L a1 L1 := hΦ 18 (by decide)
                  have e19 : y19 = .int .i64 rs := hΦ 19 (by decide)
                  subst e19
                  clear hΦ hvs
                  simp only [putAll, Act.put, List.setIfInBounds_toArray, List.set_cons_succ, List.set_cons_zero]
                  obtain ⟨a5, c5, h15, hI5, hc5, hF5⟩ := p18
                  subst h15
                  obtain ⟨w5, rfl⟩ : ∃ W, W = w4 := ⟨_, rfl⟩
                  have HI5 := Lib.hid hI5
                  have HE5 := Lib.hid (Ext.trans HEz.out (show Ext wz w5 from hG))
                  have HF5 := Lib.hid hF5
                  have HC5 := Lib.hid hc5
                  clear hI5 hc5 hF5 p13 p14 p15 hG y3 yg n0 n1 m0 m1 x0 x1 x2 x3 x4 x5
                  have HEw := Lib.hid (Ext.trans HE3.out (Ext.trans HER.out HE5.out))
                  obtain ⟨x0, x1, x2, x3, x4, x5⟩ := HCM.out w5 HE5.out
                  by_cases her : er = 0
                  · subst her
                    have HF3 := Lib.hid (show (if en ≠ -1 ∧ rs ≠ re then 10 else folE k z l (O, L1) (order.drop (j + 1))) = R from by
                      have := HF2.out
                      rw [if_neg (by simp)] at this
                      exact this)
                    by_cases hbad : en ≠ -1 ∧ rs ≠ re
                    · have HRv := Lib.hid (show R = 10 by rw [← HF3.out, if_pos hbad])
                      have g4 : decide (0 ≤ en) = true := by simp; have := HEQ.out; omega
                      have g5 : (rs != re) = true := by rw [bne_iff_ne]; exact hbad.2
                      clear hbad
                      go_wp2
                      go_ret
                      exact ⟨by rw [HRv.out]; rfl, HEw.out⟩
                    · have HFN := Lib.hid (show folE k z l (O, L1) (order.drop (j + 1)) = R from by
                        have := HF3.out
                        rw [if_neg hbad] at this
                        exact this)
                      have hcase : (decide (0 ≤ en) = false) ∨ (decide (0 ≤ en) = true ∧ (rs != re) = false) := by
                        by_cases h0 : 0 ≤ en
                        · right
                          refine ⟨by simpa using h0, ?_⟩
                          by_cases h1 : rs = re
                          · simpa using h1
                          · exact absurd ⟨by omega, h1⟩ hbad
                        · left; simpa using h0
                      have HBX5 := Lib.hid ((HE5.out.below.block _ (lt_of_block HBX.out)).trans HBX.out)
                      have z0 : w5.cell? ⟨w3.heap.size, 0, none⟩ = some (.int .i64 (s : Int)) := cell_of HBX5.out rfl
                      have z1 : w5.cell? ⟨w3.heap.size, 1, none⟩ = some (.slice a2 L.length c2) := cell_of HBX5.out rfl
                      have f0 := free_of (i := 0) HBX5.out
                      have f1 := free_of (i := 1) HBX5.out
                      clear hbad
                      rcases hcase with g4 | ⟨g4, g5⟩
                      all_goals
                        go_wp2_with fail
                        go_still_tail 7, (by kernel_rfl)
                        go_wp2
                        obtain ⟨W', hW', h4, h5, h6⟩ := put2 HBX5.out rfl (.int .i64 (O : Int)) (.slice a5 L1.length c5)
                        rw [hW']
                        have hnew : L1 ≠ [] → ∀ x, a5 = some x → x.block ≠ w3.heap.size := fun hne x e => by
                          rcases HF5.out with h | ⟨h, h'⟩
                          · have h1 := h x e; have h2 := HEz.out.size; have h3 := lt_of_block HBX.out; omega
                          · rw [h'] at hne; exact HNA.out hne x (h ▸ e)
                        exact ⟨⟨j + 1, O, L1, a5, c5, by omega, by go_num, ⟨by rw [HNL.out]; exact HOL.out, HAK.out trivial⟩, HFN.out, (by
                          cases L1 with
                          | nil => exact IntsAt.nil
                          | cons y t => exact HI5.out.turn HBX5.out (fun j _ hj => h6 j hj) (fun x e => hnew (by simp) x e)), HC5.out, hnew, h4, (Below.trans (Ext.trans HER.out HE5.out) (h5 _ (Nat.le_refl _))).drew⟩, by simp [intOf]; omega⟩
                  · have HRv := Lib.hid (show R = er by rw [← HF2.out, if_pos her])
                    have g3 : (er != 0) = true := by rw [bne_iff_ne]; exact her
                    clear her
                    go_wp2
                    go_ret
                    exact ⟨by rw [HRv.out]; rfl, HEw.out⟩
            · have hjl : lo = j := by omega
              subst hjl
              have HRv := Lib.hid (show R = 0 by rw [← HFO.out, List.drop_of_length_le (by rw [HLO.out]; exact Nat.le_refl _)]; rfl)
              go_wp2
              go_ret
              exact ⟨by rw [HRv.out]; rfl, Ext.trans HE3.out HER.out⟩
  · have HN := Lib.hid (newS_bad k z l a c wk (HH.out wk HX.out) hlen hb)
    have HRv := Lib.hid (show R = srE k z l by rw [HR.out, if_pos hb])
    have g1 : (srE k z l != 0) = true := by rw [bne_iff_ne]; exact hb
    generalize srE k z l = E at *
    unfold maxLen at hlen
    clear h hb HR hwk hO HOI
    generalize order.length = lo at *
    obtain ⟨m0, m1⟩ := HMD.out wk (Below.refl _ _)
    go_enter Tryd.func21, Tryd.ntmps21
    go_wp2_with fail
    try rw [hwk']
    refine HN.out.mono ?_
    intro w1 hE
    have HE1 := Lib.hid (Ext.trans HX.out hE)
    clear hE m0 m1
    go_wp2
    go_ret
    exact ⟨by rw [HRv.out]; rfl, HE1.out⟩
end Go.Proofs.YtmbkjccckmlacaaDoor

namespace Go.Proofs.YtmbkjccckmlacaaDoor
open Go.RowKit
set_option linter.unusedVariables false
set_option linter.unusedSimpArgs false

theorem grH_leF {n : Nat} (h : grH n = false) : n ≤ 40 := by
  unfold grH at h
  simp at h
  omega
theorem cot_one {k z : Int} {l : List Cl} : cotR k z l 1 = (if (srhR k z l).2.1 = true then 1 else 0, (srhR k z l).2.2) := by
  rw [srh_e]
  unfold cotR
  by_cases h : srE k z l = 0
  · rw [if_neg (by simpa using h), if_neg (by omega), h]
    have e : (srhR k z l).2.1 = true ↔ 0 < cnt k z l (beg0 k) := by rw [srh_iff]; exact ⟨fun g => g.2, fun g => ⟨h, g⟩⟩
    by_cases hc : 0 < cnt k z l (beg0 k)
    · rw [if_pos (e.2 hc)]; congr 1; omega
    · rw [if_neg (fun g => hc (e.1 g))]; congr 1; omega
  · rw [if_pos h]
    have : ¬ (srhR k z l).2.1 = true := fun g => h (srh_iff.1 g).1
    rw [if_neg this]
theorem srh_no {k z : Int} {l : List Cl} (h : (srhR k z l).2.1 = false) : (srhR k z l).1 = [] := by
  unfold srhR at h ⊢
  split
  · rfl
  · next he =>
    rw [if_neg he] at h
    unfold serR at h ⊢
    split
    · rfl
    · next hc => rw [if_neg hc] at h; simp at h
theorem ser_len {k z : Int} {l : List Cl} : ∀ (f : Nat) (n : Nd), (serF k z l f n).length ≤ lft l n
  | 0, n => by simp [serF]
  | f + 1, n => by
    rw [serF]
    split
    · simp
    · split
      · next p hp =>
        have hx := (mem_nxs.1 (List.mem_of_find?_eq_some hp)).2
        have := ser_len (k := k) (z := z) (l := l) f p.2
        have := nxt_lft hx
        simp only [List.length_cons]; omega
      · simp
theorem srh_len {k z : Int} {l : List Cl} : (srhR k z l).1.length ≤ l.length := by
  unfold srhR
  split
  · simp
  · unfold serR
    split
    · simp
    · exact Nat.le_trans (ser_len _ _) (lft_le l _)
theorem IntsAt.take {w : World} {a : Option Addr} {l : List Int} (h : IntsAt w a l) (k : Nat) : IntsAt w a (l.take k) := fun i hi => by
  obtain ⟨b, off, e, hc⟩ := h i (by rw [List.length_take] at hi; omega)
  exact ⟨b, off, e, by rw [List.getElem_take]; exact hc⟩
set_option maxRecDepth 100000 in
set_option maxHeartbeats 4000000 in
theorem linearizeFinds_walk (k z : Int) (l : List Cl) (a : Option Addr) (c : Nat) (o : Option Addr) (lo co : Nat) (zs : List Int) (w : World) (hO : OpIn w a c l) (hZ : IsRow .i64 w o lo co zs) (hT : TabW w) :
    Gives Tryd.prog 7 #[.agg #[.int .i64 k, .int .i64 z], .slice a l.length c, .slice o lo co] w (.bool true) := by
  obtain ⟨hHs, hlc, hlm, -⟩ := hO
  obtain ⟨order, hol, hom, hoI, -⟩ := hZ.ints
  clear hZ
  unfold Gives
  have KA := Lib.hid (fun W (hW : Ext w W) => awake_any W (hT.below hW.below))
  have HX1 := Lib.hid (ext_allocN w (.cells #[.int .i64 k, .int .i64 z] 23))
  have HMD := Lib.hid (mdCells w k z)
  have KS := Lib.hid (fun W (hW : Ext w W) => Search_any k z l a c W (hHs.ext hW) hlm (hT.below hW.below))
  have KC := Lib.hid (fun W (hW : Ext w W) => Count_any k z l 1 a c W (hHs.ext hW) hlm (hT.below hW.below))
  have KG := Lib.hid (fun W => great_any l.length a c W)
  cases hg : grH l.length with
  | true =>
    rw [hg] at KG
    clear hlc hlm hHs hT KC KS hol hom hoI
    generalize l.length = len at *
    go_enter Tryd.func7, Tryd.ntmps7
    go_wp2_with fail
    refine (KG.out _).mono ?_
    intro w2 hE2
    have HE2 := Lib.hid (Ext.trans HX1.out hE2)
    clear hE2
    go_wp2_with fail
    refine (KA.out _ HE2.out).mono ?_
    intro w3 hE3
    have HE3 := Lib.hid (Ext.trans HE2.out hE3)
    clear hE3
    go_wp2
    go_ret
    exact ⟨rfl, HE3.out⟩
  | false =>
    have hl := grH_leF hg
    rw [hg] at KG
    by_cases h20 : 20 < lo
    · have d20 : decide ((20 : Int) < (lo : Int)) = true := by simp; omega
      clear hlc hlm hHs hT KC KS hol hoI h20
      unfold maxLen at hom
      generalize l.length = len at *
      go_enter Tryd.func7, Tryd.ntmps7
      go_wp2_with fail
      refine (KG.out _).mono ?_
      intro w2 hE2
      have HE2 := Lib.hid (Ext.trans HX1.out hE2)
      clear hE2
      go_wp2_with fail
      refine (KA.out _ HE2.out).mono ?_
      intro w3 hE3
      have HE3 := Lib.hid (Ext.trans HE2.out hE3)
      clear hE3
      go_wp2
      go_ret
      exact ⟨rfl, HE3.out⟩
    · have d20 : decide ((20 : Int) < (lo : Int)) = false := by simp; omega
      have KV := Lib.hid (fun W (hW : Ext w W) => show Gives Tryd.prog 21 #[.agg #[.int .i64 k, .int .i64 z], .slice a l.length c, .slice o lo co] W (.int .i64 (verR k z l order)) from by
        rw [← hol]; exact Verify_any k z l order a o c co W (hHs.ext hW) hlm (hoI.ext hW) (by omega))
      have KV2 := Lib.hid (fun W (hW : Ext w W) (m : List Int) (x : Option Addr) (cc : Nat) (hm : IntsAt W x m) (hml : m.length ≤ 1000) => Verify_any k z l m a x c cc W (hHs.ext hW) hlm hm hml)
      have HB := Lib.hid (fun (h : (srhR k z l).2.2 ≠ 0) => show verR k z l order = (srhR k z l).2.2 from by rw [srh_e] at h ⊢; exact ver_bad h order)
      have HFN := Lib.hid (fun (h : (srhR k z l).2.1 = false) => find_no h order)
      have HFV := Lib.hid (fun (h : (srhR k z l).2.1 = true) => find_ver h)
      have HNo := Lib.hid (fun (h : (srhR k z l).2.1 = false) => srh_no h)
      have HSL := Lib.hid (srh_len (k := k) (z := z) (l := l))
      have HIS := Lib.hid (fun (h : (srhR k z l).2.2 ≠ 0) => show (srhR k z l).2.1 = false from by
        rw [srh_e] at h
        cases hc : (srhR k z l).2.1 with
        | false => rfl
        | true => exact absurd (srh_iff.1 hc).1 h)
      rw [cot_one] at KC
      have HL40 := Lib.hid hl
      unfold maxLen at hom
      clear hlc hlm hHs hT hoI h20 hg hl
      generalize srhR k z l = S at *
      obtain ⟨s1, is, er⟩ := S
      unfold ShP at KS
      dsimp only at *
      generalize verR k z l order = vo at *
      obtain ⟨len, hlen⟩ : ∃ n, l.length = n := ⟨_, rfl⟩
      rw [hlen] at KS KC KG KV KV2 HL40 HSL ⊢
      clear hlen
      by_cases he : er = 0
      · subst he
        cases is with
        | false =>
          obtain rfl := HNo.out rfl
          have g5 : (vo != 0) = true := by rw [bne_iff_ne]; exact HFN.out rfl
          rw [if_neg (by simp)] at KC
          clear HB HFN HFV HNo HSL HIS KV2
          go_enter Tryd.func7, Tryd.ntmps7
          go_wp2_with fail
          refine (KG.out _).mono ?_
          intro w2 hE2
          obtain ⟨m0, m1⟩ := HMD.out w2 hE2
          have HX2 := Lib.hid hE2
          have HE2 := Lib.hid (Ext.trans HX1.out hE2)
          clear hE2
          go_wp2_with fail
          refine (KS.out _ HE2.out).mono ?_
          rintro e w3 ⟨v, rfl, hr, hE3⟩
          have HX3 := Lib.hid (Ext.trans HX2.out hE3)
          have HE3 := Lib.hid (Ext.trans HE2.out hE3)
          obtain ⟨x3, c3, rfl, -, -, -⟩ := hr.look
          clear hE3 hr m0 m1
          obtain ⟨m0, m1⟩ := HMD.out w3 HX3.out
          go_wp2_with fail
          refine (KC.out _ HE3.out).mono ?_
          intro w4 hE4
          have HX4 := Lib.hid (Ext.trans HX3.out hE4)
          have HE4 := Lib.hid (Ext.trans HE3.out hE4)
          clear hE4 m0 m1
          obtain ⟨m0, m1⟩ := HMD.out w4 HX4.out
          go_wp2_with fail
          refine (KV.out _ HE4.out).mono ?_
          intro w5 hE5
          have HE5 := Lib.hid (Ext.trans HE4.out hE5)
          clear hE5 m0 m1
          go_wp2_with fail
          refine (KA.out _ HE5.out).mono ?_
          intro w6 hE6
          have HE6 := Lib.hid (Ext.trans HE5.out hE6)
          clear hE6
          go_wp2
          go_ret
          exact ⟨rfl, HE6.out⟩
        | true =>
          obtain ⟨hv1, hv2⟩ := HFV.out rfl
          have HV1 := Lib.hid hv1
          have HV2 := Lib.hid hv2
          rw [if_pos rfl] at KC
          clear HB HFN HFV HNo HIS hv1 hv2 KV
          go_enter Tryd.func7, Tryd.ntmps7
          go_wp2_with fail
          refine (KG.out _).mono ?_
          intro w2 hE2
          obtain ⟨m0, m1⟩ := HMD.out w2 hE2
          have HX2 := Lib.hid hE2
          have HE2 := Lib.hid (Ext.trans HX1.out hE2)
          clear hE2
          go_wp2_with fail
          refine (KS.out _ HE2.out).mono ?_
          rintro e w3 ⟨v, rfl, hr, hE3⟩
          have HX3 := Lib.hid (Ext.trans HX2.out hE3)
          have HE3 := Lib.hid (Ext.trans HE2.out hE3)
          obtain ⟨x3, c3, rfl, hi3, hc3, -⟩ := hr.look
          have HI3 := Lib.hid hi3
          have HSL2 := Lib.hid (show (s1.map Int.ofNat).length ≤ 40 by rw [List.length_map]; exact Nat.le_trans HSL.out HL40.out)
          have HV2m := Lib.hid (fun j (hj : j < (s1.map Int.ofNat).length) => HV2.out j (by rw [List.length_map] at hj; exact hj))
          clear hE3 hr m0 m1 hi3 HV2 HSL
          generalize s1.map Int.ofNat = m at *
          obtain ⟨lm, hlm⟩ : ∃ n, m.length = n := ⟨_, rfl⟩
          rw [hlm] at hc3 ⊢
          have HLM := Lib.hid hlm
          have hlm40 : lm ≤ 40 := by rw [← HLM.out]; exact HSL2.out
          clear hlm
          obtain ⟨m0, m1⟩ := HMD.out w3 HX3.out
          go_wp2_with fail
          refine (KC.out _ HE3.out).mono ?_
          intro w4 hE4
          have HX4 := Lib.hid (Ext.trans HX3.out hE4)
          have HE34 := Lib.hid hE4
          have HE4 := Lib.hid (Ext.trans HE3.out hE4)
          clear hE4 m0 m1
          have HC3 := Lib.hid hc3
          go_wp2_with fail
          go_loopw [84] (fun i wr => ∃ j : Nat, j ≤ lm ∧ i = .int .i64 (j : Int) ∧ Ext w4 wr) (fun i _ => lm - (intOf i).toNat)
          case atStart => exact ⟨0, Nat.zero_le _, rfl, Below.refl _ _⟩
          case round =>
            obtain ⟨j, hj, rfl, hEr⟩ := hrel
            have HER := Lib.hid hEr
            clear hEr
            by_cases hlt : j < lm
            · have hjc : (j : Int) ≤ (c3 : Int) := by have := HC3.out; omega
              have hj0 : (0 : Int) ≤ (j : Int) := by omega
              have hjc2 : j ≤ c3 := by omega
              have htl : (m.take j).length = j := by rw [List.length_take, HLM.out]; omega
              have HVJ := Lib.hid (fun W (hW : Ext wr W) => show Gives Tryd.prog 21 #[.agg #[.int .i64 k, .int .i64 z], .slice a len c, .slice x3 j c3] W (.int .i64 (verR k z l (m.take j))) from by
                have := KV2.out W (Ext.trans HE4.out (Ext.trans HER.out hW)) (m.take j) x3 c3 ((HI3.out.ext (Ext.trans HE34.out (Ext.trans HER.out hW))).take j) (by omega)
                rw [htl] at this
                exact this)
              have g6 : (verR k z l (m.take j) == 0) = false := by simpa using HV2m.out j (by rw [HLM.out]; exact hlt)
              obtain ⟨m0, m1⟩ := HMD.out wr (Ext.trans HX4.out HER.out)
              clear htl
              generalize verR k z l (m.take j) = vj at *
              go_wp2_with fail
              go_still_tail 5, (by kernel_rfl)
              go_wp2_with fail
              have HEd := Lib.hid (show Ext wr wr.drew from Ext.drewN' (n := 1) (Below.refl _ _))
              refine (HVJ.out _ HEd.out).mono ?_
              intro w5 hE5
              have HE5 := Lib.hid (Ext.trans HER.out (Ext.trans HEd.out hE5))
              clear hE5 m0 m1
              go_wp2
              exact ⟨⟨j + 1, by omega, by go_num, HE5.out⟩, by simp [intOf]; omega⟩
            · have hjl : lm = j := by omega
              subst hjl
              have HEw := Lib.hid (Ext.trans HE4.out HER.out)
              have KV3 := Lib.hid (fun W (hW : Ext wr W) => show Gives Tryd.prog 21 #[.agg #[.int .i64 k, .int .i64 z], .slice a len c, .slice x3 lm c3] W (.int .i64 0) from by
                have := KV2.out W (Ext.trans HEw.out hW) m x3 c3 (HI3.out.ext (Ext.trans HE34.out (Ext.trans HER.out hW))) (by rw [HLM.out]; omega)
                rw [HLM.out, HV1.out] at this
                exact this)
              obtain ⟨m0, m1⟩ := HMD.out wr (Ext.trans HX4.out HER.out)
              go_wp2_with fail
              refine (KV3.out _ (Below.refl _ _)).mono ?_
              intro w5 hE5
              have HE5 := Lib.hid (Ext.trans HEw.out hE5)
              clear hE5 m0 m1
              go_wp2_with fail
              refine (KA.out _ HE5.out).mono ?_
              intro w6 hE6
              have HE6 := Lib.hid (Ext.trans HE5.out hE6)
              clear hE6
              go_wp2
              go_ret
              exact ⟨rfl, HE6.out⟩
      · have g1 : (er != 0) = true := by rw [bne_iff_ne]; exact he
        obtain rfl := HIS.out he
        obtain rfl := HNo.out rfl
        obtain rfl := (HB.out he)
        rw [if_neg (by simp)] at KC
        clear HB HFN HFV HNo HIS KV2 he
        go_enter Tryd.func7, Tryd.ntmps7
        go_wp2_with fail
        refine (KG.out _).mono ?_
        intro w2 hE2
        obtain ⟨m0, m1⟩ := HMD.out w2 hE2
        have HX2 := Lib.hid hE2
        have HE2 := Lib.hid (Ext.trans HX1.out hE2)
        clear hE2
        go_wp2_with fail
        refine (KS.out _ HE2.out).mono ?_
        rintro e w3 ⟨v, rfl, hr, hE3⟩
        have HX3 := Lib.hid (Ext.trans HX2.out hE3)
        have HE3 := Lib.hid (Ext.trans HE2.out hE3)
        obtain ⟨x3, c3, rfl, -, -, -⟩ := hr.look
        clear hE3 hr m0 m1
        obtain ⟨m0, m1⟩ := HMD.out w3 HX3.out
        go_wp2_with fail
        refine (KC.out _ HE3.out).mono ?_
        intro w4 hE4
        have HX4 := Lib.hid (Ext.trans HX3.out hE4)
        have HE4 := Lib.hid (Ext.trans HE3.out hE4)
        clear hE4 m0 m1
        obtain ⟨m0, m1⟩ := HMD.out w4 HX4.out
        go_wp2_with fail
        refine (KV.out _ HE4.out).mono ?_
        intro w5 hE5
        have HE5 := Lib.hid (Ext.trans HE4.out hE5)
        clear hE5 m0 m1
        go_wp2_with fail
        refine (KA.out _ HE5.out).mono ?_
        intro w6 hE6
        have HE6 := Lib.hid (Ext.trans HE5.out hE6)
        clear hE6
        go_wp2
        go_ret
        exact ⟨rfl, HE6.out⟩
end Go.Proofs.YtmbkjccckmlacaaDoor

namespace Go.Proofs.YtmbkjccckmlacaaDoor.linearizeFinds
open Go.ChangeShapes Go.WideShapes Go.ChangeAt Go.RowKit
open Go.ChangeMaps (open_string shut_string)
set_option linter.unusedVariables false

theorem own : ownKnob Tryd.prog.godebug = none := by kernel_rfl
theorem laidOut : laidOutB Tryd.prog = true := by kernel_rfl
/-- the cells of a datum of plain values -/
def flat : Nat → DataW Unit → List Value
  | _, .lit l => [l.value]
  | n + 1, .agg ps => ps.flatMap (flat n)
  | _, _ => []
/-- a world for the witness: the settled one, the listed tables holding what the text lays -/
def lay (d : DataW Unit) : Obj → Obj
  | .cells _ t frozen => .cells (flat 4 d).toArray t frozen
  | o => o
noncomputable def laidWorld (os : Os) : World :=
  { World.holding Tryd.prog os ⟨#[], #[], []⟩ with heap := ((((World.holding Tryd.prog os ⟨#[], #[], []⟩).heap.modify 1 (lay Rows.laid_math_bits_deBruijn32tab)).modify 2 (lay Rows.laid_math_bits_deBruijn64tab)).modify 0 (lay Rows.laid_internal_strconv_uint64pow10)) }
theorem laid_met (os : Os) : laidMet Tryd.prog Rows.linearizeFindsRow.laid ((laidWorld os).forCall (fun _ _ => 0) ⟨#[], #[.agg #[.int .i64 0, .int .i64 0], .slice none 0 0, .slice none 0 0], []⟩).memory :=
  laidMet_of_run' 8 (by kernel_rfl) (by kernel_rfl)
theorem reads (os : Os) {H : Type} (enc : TypeId × Value → H) : ∃ places, DataW.whole enc Tryd.prog ((laidWorld os).forCall (fun _ _ => 0) ⟨#[], #[.agg #[.int .i64 0, .int .i64 0], .slice none 0 0, .slice none 0 0], []⟩).memory Tryd.f7.params.toList Rows.linearizeFindsSpec.vars false (#[.agg #[.int .i64 0, .int .i64 0], .slice none 0 0, .slice none 0 0] : Array Value).toList 8 = some ([.agg [.lit (.int .i64 0), .lit (.int .i64 0)], .nil, .nil], [], places) :=
  ⟨[], by kernel_rfl⟩
theorem tab (W : World) (h : laidMetH Tryd.prog Rows.linearizeFindsRow.laid W) : TabW W := by
  have h1 : laidMet Tryd.prog Rows.linearizeFindsRow.laid W := h
  exact Lib.tabIs_of_head (g := 0) (t := 129) (e := 116) (n := 20) (by kernel_rfl) (by kernel_rfl) Tryd.underlying129 Tryd.underlying116 (by kernel_rfl) (by kernel_rfl) h1.tail.tail
set_option maxRecDepth 100000 in
theorem contract (H : Type) (enc : TypeId × Value → H) (W : World) (base : Nat) (args : Array Value) (ds gs : List (DataW H)) (before : List MemPlace)
    (hval0 : ∀ (j : Nat) t v, Tryd.f7.params[j]? = some t → args[j]? = some v → Value.okWide Tryd.prog W .any base t v)
    (hW : DataW.Whole enc Tryd.prog Tryd.f7.params.toList Rows.linearizeFindsSpec.vars false W args.toList ds gs before) (hz : (DataW.weightsEach Tryd.prog (Tryd.f7.params.toList ++ (OpenSpec.ofChange Rows.linearizeFindsSpec).bare.plain.varTypes Tryd.prog) (ds ++ gs)).all (· ≤ reachBytes) = true) (hL : laidMetH Tryd.prog Rows.linearizeFindsRow.laid W) :
    Calls Tryd.prog 7 args W fun e W' => ∃ v, e = .returned v ∧ Rows.linearizeFindsSpec.post enc Tryd.prog Tryd.f7 false true false false W args v W' := by
  have hval := hval0
  have hW' := hW
  obtain ⟨p, q, hA0, hV, rfl, hfz, hnd⟩ := hW
  have hA : DataW.TrodAll enc Tryd.prog W 0 (fun _ => true) true Tryd.f7.params.toList args.toList ds p := hA0
  rw [Tryd.params7] at hA hval
  obtain ⟨v0, vs0, d0, ds0, p0, q0, hargs, rfl, rfl, h0, r0⟩ := trodAll_cons hA
  obtain ⟨v1, vs1, d1, ds1, p1, q1, rfl, rfl, rfl, h1, r1⟩ := trodAll_cons r0
  obtain ⟨v2, vs2, d2, ds2, p2, q2, rfl, rfl, rfl, h2, r2⟩ := trodAll_cons r1
  obtain ⟨rfl, rfl, rfl⟩ := trodAll_nil r2
  obtain rfl : args = #[v0, v1, v2] := by cases args; simp_all
  obtain ⟨rfl, rfl⟩ := trodVars_none hV
  have k0 := h0
  have lt0 : ∀ x ∈ p0, x.block < W.heap.size := by obtain ⟨m, hm⟩ := k0; exact DataW.trod_lt m _ _ _ hm
  obtain ⟨mk0, mz0, rfl, wk0, wz0⟩ := open_md (hval 0 23 v0 rfl rfl) h0
  obtain ⟨a1, len1, cap1, rfl⟩ := okWide_slice Tryd.underlying24 (hval 1 24 v1 rfl rfl)
  have k1 := h1
  have lt1 : ∀ x ∈ p1, x.block < W.heap.size := by obtain ⟨m, hm⟩ := k1; exact DataW.trod_lt m _ _ _ hm
  obtain ⟨tk1, rfl, w1⟩ := open_ops h1
  obtain ⟨a2, len2, cap2, rfl⟩ := okWide_slice Tryd.underlying27 (hval 2 27 v2 rfl rfl)
  have k2 := h2
  have lt2 : ∀ x ∈ p2, x.block < W.heap.size := by obtain ⟨m, hm⟩ := k2; exact DataW.trod_lt m _ _ _ hm
  obtain ⟨z2, w2⟩ : ∃ zs, IsRow .i64 W a2 len2 cap2 zs := by
    obtain ⟨fuel, hf⟩ := h2
    rcases open_ints Tryd.underlying27 Tryd.underlying3 (by kernel_rfl) hf with ⟨hcs, _⟩ | ⟨x, l, c, zs, hcs, _, hl, hm, hz, _, hcell, hwz⟩
    · simp [Value.cells] at hcs
      obtain ⟨rfl, rfl, rfl⟩ := hcs
      exact ⟨[], .inl ⟨rfl, rfl, rfl, rfl⟩⟩
    · simp [Value.cells] at hcs
      obtain ⟨rfl, rfl, rfl⟩ := hcs
      exact ⟨zs, .inr ⟨_, rfl, hl, hm, by simpa using hz, hcell, hwz⟩⟩
  clear hA0 hval0 hz
  refine (linearizeFinds_walk mk0 mz0 tk1 a1 cap1 a2 len2 cap2 z2 W w1 w2 (tab W hL)).mono fun W' bel => ?_
  exact ⟨_, rfl, _, _, _, [], _, [], hW', trodAll_mk1 (shut_bool Tryd.underlying4 _), (trodAll_cons_mk (Below.trod laidOut (by kernel_rfl) (of_decide_eq_true (by kernel_rfl)) k0 bel lt0) (trodAll_cons_mk (Below.trod laidOut (by kernel_rfl) (of_decide_eq_true (by kernel_rfl)) k1 bel lt1) (trodAll_cons_mk (Below.trod laidOut (by kernel_rfl) (of_decide_eq_true (by kernel_rfl)) k2 bel lt2) trodAll_mk0))), rfl, bel.frame _, fun h => by cases h⟩

set_option maxRecDepth 100000 in
theorem lifted (os : Os) (started : os.Started) (H : Type) (enc : TypeId × Value → H) (F : Stop.Interp) :
    ReturnsInHanded {} Tryd.checked os 7 .any ((OpenSpec.ofChange Rows.linearizeFindsSpec).preRow enc Tryd.prog Tryd.f7 Rows.linearizeFindsRow.domain false Rows.linearizeFindsRow.laid) (((OpenSpec.ofChange Rows.linearizeFindsSpec).at F).post enc Tryd.prog Tryd.f7 false true false false) := by
  obtain ⟨places, hx⟩ := reads os enc
  refine returnsInHanded_of_row (C := Tryd.checked) (s := OpenSpec.ofChange Rows.linearizeFindsSpec) own started (by kernel_rfl) Tryd.func7
    (witness_row_at (enc := enc) (C := Tryd.checked) false (laidWorld os) #[.agg #[.int .i64 0, .int .i64 0], .slice none 0 0, .slice none 0 0] rfl (by kernel_rfl) (by kernel_rfl) (by kernel_rfl)
      (OpenSpec.preRow_of_cond 8 hx (by kernel_rfl) (fun k hk => by cases hk) (by kernel_rfl) (laid_met os))) ?_
  intro W base args ds gs before hval hW _ _ hz hL hsh _
  exact contract H enc W base args ds gs before hval hW hz hL

theorem said : Rows.LinearizeFindsSaid :=
  OpenClaim.holds_of_cond 7 Tryd.f7 rfl rfl rfl rfl rfl rfl rfl ⟨rfl, rfl, rfl, rfl, rfl⟩ rfl rfl rfl rfl rfl (by kernel_rfl) Tryd.func7 (by kernel_rfl)
    (of_decide_eq_true (by kernel_rfl)) (by unfold Func.isWrapper; first | (rw [if_pos (by decide +kernel)]; kernel_rfl) | (rw [if_neg (by decide +kernel)]; exact ⟨rfl, rfl⟩))
    (fun os started H enc _ F => by rw [OpenClaim.pre_eq_preRow]; exact lifted os started H enc F)

theorem plain (f : FuncId) (fn : Func) (hf : Tryd.pinned.checked.prog.funcNamed "nursery/nurserylaw44.LinearizeFinds" = some f) (hfn : Tryd.pinned.checked.prog.funcs[f]? = some fn) :
    false = Tryd.pinned.checked.prog.looks [] ∧ ∀ (j : Nat) t, fn.params[j]? = some t → Tryd.pinned.checked.prog.wantsStandIn t = false := by
  obtain rfl : f = 7 := Option.some.inj ((show Tryd.prog.funcNamed "nursery/nurserylaw44.LinearizeFinds" = some 7 by kernel_rfl).symm.trans hf) |>.symm
  obtain rfl : fn = Tryd.f7 := (Option.some.inj (Tryd.func7.symm.trans hfn)).symm
  refine ⟨by kernel_rfl, fun j t ht => ?_⟩
  rw [Tryd.params7] at ht
  rcases j with _ | _ | _ | j
  · obtain rfl : t = 23 := by simpa using ht.symm
    exact (show Tryd.prog.wantsStandIn 23 = false by kernel_rfl)
  · obtain rfl : t = 24 := by simpa using ht.symm
    exact (show Tryd.prog.wantsStandIn 24 = false by kernel_rfl)
  · obtain rfl : t = 27 := by simpa using ht.symm
    exact (show Tryd.prog.wantsStandIn 27 = false by kernel_rfl)
  · simp at ht

/-- the statement -/
theorem proved : Rows.LinearizeFindsCardSaid :=
  Claim7.holds_tied_plain_at .later [] _ _ _ _ said (fun _ h => by cases h) (by kernel_rfl) (fun _ h => by cases h) linearizeFinds_row_tie rfl ⟨rfl, rfl⟩ (by kernel_rfl) rfl plain (by kernel_rfl)
#print axioms proved
end Go.Proofs.YtmbkjccckmlacaaDoor.linearizeFinds

