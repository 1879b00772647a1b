/- The statement LinearizeExplainsCardSaid: for every input the law returns true, and the arguments read as before; the tables of the library that it lists are tied to the text. The frame round the walk of the law. (With it: linearize: Verify.; linearize: isState, Apply.; linearize: Apply.; slices.Contains at []int; the law's closure over pairs, and slices.ContainsFunc with it.; LinearizeFinds: what Search returns is verified, no proper beginning of it is; if it finds nothing, no order is verified, and Count is 0.; The closure of LinearizeExplains; slices.ContainsFunc over pairs with it.; The law's sequential histories.; Explanations, plain: what the law's loops find.; LinearizeExplains: an explanation is a partial linearization that no call can follow, unless it is a linearization; the call that is named is neither pending nor in it. Printed by mk_lawlexp.py.) -/
import Derived.Stop.LaidErr
import Derived.Test.YtmbkjccckmlacaaDoorCards
import Derived.Test.YtmbkjccckmlacaaDoorTie
import Derived.WalkKit
import Derived.ProofKit
import Derived.OpenShut
import Derived.ShutString
import Derived.ChangeOld
import Derived.Below
import Derived.Deep.DeepHandedRow
import Derived.Lib.LaidTab
import Derived.Shelf.Vars
import Derived.Test.YtmbkjccckmlacaaDoorPart7
import Derived.Test.YtmbkjccckmlacaaDoorPart1
import Derived.Test.YtmbkjccckmlacaaDoorPart2

namespace Go.Proofs.YtmbkjccckmlacaaDoor
open Go.RowKit
set_option linter.unusedVariables false
set_option linter.unusedSimpArgs false

theorem ordE_in {nl : Nat} : ∀ (o : List Int) (s : Nat), ordE nl s o = 0 → ∀ i ∈ o, 0 ≤ i ∧ i < nl
  | [], _, _ => by simp
  | i :: t, s, h => by
    rw [ordE] at h
    split at h
    · omega
    · next h1 =>
      split at h
      · omega
      · intro x hx
        rcases List.mem_cons.1 hx with rfl | hx
        · omega
        · exact ordE_in t _ h x hx
theorem ordE_bad {nl s : Nat} {i : Int} {t : List Int} (h : i < 0 ∨ (nl : Int) ≤ i) : ordE nl s (i :: t) = 2 := by rw [ordE, if_pos h]
theorem ordE_twice {nl s q : Nat} {t : List Int} (h : q < nl) (hb : s.testBit q = true) : ordE nl s ((q : Int) :: t) = 6 := by
  rw [ordE, if_neg (by omega), Int.toNat_natCast, if_pos hb]
theorem ordE_step {nl s q : Nat} {t : List Int} (h : q < nl) (hb : s.testBit q = false) : ordE nl s ((q : Int) :: t) = ordE nl (s ||| 2 ^ q) t := by
  rw [ordE, if_neg (by omega), Int.toNat_natCast, if_neg (by simp [hb])]
theorem setO_step {s q : Nat} {t : List Int} : setO s ((q : Int) :: t) = setO (s ||| 2 ^ q) t := by simp [setO]
theorem folE_step {k z : Int} {l : List Cl} {n : Nd} {q : Nat} {t : List Int} (h : q < l.length) : folE k z l n ((q : Int) :: t) =
    if subM (bef l q) n.1 l.length = false then 9 else
      if (apM k z n.2 l[q].meth l[q].arg).2.2 ≠ 0 then (apM k z n.2 l[q].meth l[q].arg).2.2 else
      if l[q].en ≠ -1 ∧ (apM k z n.2 l[q].meth l[q].arg).2.1 ≠ l[q].res then 10 else folE k z l (n.1 ||| 2 ^ q, (apM k z n.2 l[q].meth l[q].arg).1) t := by
  rw [folE, Int.toNat_natCast, List.getElem?_eq_getElem h]
theorem or_lt {s q nl : Nat} (hs : s < 2 ^ nl) (hq : q < nl) : s ||| 2 ^ q < 2 ^ nl := Nat.or_lt_two_pow hs (Nat.pow_lt_pow_right (by omega) hq)
theorem mdCells (w : World) (k z : Int) : ∀ W, Ext (w.alloc (.cells #[.int .i64 k, .int .i64 z] 23)) W → W.cell? ⟨w.heap.size, 0, none⟩ = some (.int .i64 k) ∧ W.cell? ⟨w.heap.size, 1, none⟩ = some (.int .i64 z) := fun W hW => by
  have hb := (hW.below.block _ (lt_of_block (alloc_here w (.cells #[.int .i64 k, .int .i64 z] 23)))).trans (alloc_here w (.cells #[.int .i64 k, .int .i64 z] 23))
  exact ⟨cell_of hb rfl, cell_of hb rfl⟩
set_option maxRecDepth 100000 in
set_option maxHeartbeats 4000000 in
theorem Verify_any (k z : Int) (l : List Cl) (order : List Int) (a o : Option Addr) (c co : Nat) (w : World) (h : HsAt w a l) (hlen : l.length ≤ maxLen) (hO : IntsAt w o order) (hol : order.length ≤ 1000) :
    Gives Tryd.prog 21 #[.agg #[.int .i64 k, .int .i64 z], .slice a l.length c, .slice o order.length co] w (.int .i64 (verR k z l order)) := by
  unfold Gives
  have HX := Lib.hid (ext_allocN w (.cells #[.int .i64 k, .int .i64 z] 23))
  have HMD := Lib.hid (mdCells w k z)
  have HH := Lib.hid (fun W (hW : Ext w W) => h.ext hW)
  have HOI := Lib.hid (fun W (hW : Ext w W) => hO.ext hW)
  have HR := Lib.hid (show verR k z l order = if srE k z l ≠ 0 then srE k z l else if ordE l.length 0 order ≠ 0 then ordE l.length 0 order else if cmpl l (setO 0 order, []) = false then 7 else folE k z l (beg0 k) order from rfl)
  generalize verR k z l order = R at *
  obtain ⟨wk, hwk⟩ : ∃ W, W = w.alloc (.cells #[.int .i64 k, .int .i64 z] 23) := ⟨_, rfl⟩
  have hwk' := hwk.symm
  rw [hwk'] at HX HMD
  by_cases hb : srE k z l = 0
  · obtain ⟨hmd, hck, hl⟩ := srE_parts hb
    obtain ⟨hk1, hk6⟩ := mdE_k hmd
    have HR1 := Lib.hid (show R = if ordE l.length 0 order ≠ 0 then ordE l.length 0 order else if cmpl l (setO 0 order, []) = false then 7 else folE k z l (beg0 k) order by rw [HR.out, if_neg (by rw [hb]; simp)])
    have HN := Lib.hid (newS_ok k z l a c wk (HH.out wk HX.out) hb)
    have HEN := Lib.hid (ck_en hck)
    have HGB := Lib.hid (Gd.beg0 (z := z) l hmd)
    clear h hb hmd hck HR hwk hO
    obtain ⟨nl, hnl⟩ : ∃ n, l.length = n := ⟨_, rfl⟩
    have HNL := Lib.hid hnl
    obtain ⟨lo, hlo⟩ : ∃ n, order.length = n := ⟨_, rfl⟩
    have HLO := Lib.hid hlo
    rw [hlo] at hol ⊢
    have hl12 : nl ≤ 12 := by omega
    rw [hnl] at HN HR1 hlen ⊢
    clear hnl hlo hl
    obtain ⟨m0, m1⟩ := HMD.out wk (Below.refl _ _)
    go_enter Tryd.func21, Tryd.ntmps21
    go_wp2_with fail
    try rw [hwk']
    refine HN.out.mono ?_
    rintro e w1 ⟨A, rfl, hs, hp, hc1, hc2, hne, hm1, hm2, hE⟩
    have HS1 := Lib.hid hs
    have HE1 := Lib.hid (Ext.trans HX.out hE)
    have HX1 := Lib.hid hE
    clear hs hp hc1 hc2 hne hm1 hm2 hE m0 m1
    go_wp2_with fail
    go_loopw [9, 29] (fun sv i wr => ∃ (j s : Nat), j ≤ lo ∧ i = .int .i64 (j : Int) ∧ sv = .int .i64 (s : Int) ∧ s < 2 ^ nl ∧ ordE nl s (order.drop j) = ordE nl 0 order ∧ setO s (order.drop j) = setO 0 order ∧ Ext w1 wr) (fun _ i _ => lo - (intOf i).toNat)
    case atStart => exact ⟨0, 0, Nat.zero_le _, rfl, rfl, Nat.two_pow_pos _, rfl, rfl, Below.refl _ _⟩
    case round =>
      obtain ⟨j, s, hj, rfl, rfl, hs, hE0, hS0, hE⟩ := hrel
      have HEr := Lib.hid hE
      have HE0 := Lib.hid hE0
      have HS0 := Lib.hid hS0
      have HSL := Lib.hid hs
      clear hE hE0 hS0 hs
      by_cases hlt : j < lo
      · have hjl : j < order.length := by rw [HLO.out]; exact hlt
        have HD := Lib.hid (List.drop_eq_getElem_cons hjl)
        obtain ⟨b, off, hob, hcell⟩ := (HOI.out wr (Ext.trans HE1.out HEr.out)).at hjl
        subst hob
        have hi0 : (0 : Int) ≤ (j : Int) := by omega
        have hi1 : (j : Int) < (lo : Int) := by omega
        generalize order[j] = i at *
        by_cases hn : i < 0
        · have d1 : decide (i < 0) = true := by simpa using hn
          have HRv := Lib.hid (show R = 2 by
            have e : ordE nl 0 order = 2 := by rw [← HE0.out, HD.out, ordE_bad (Or.inl hn)]
            rw [HR1.out, if_pos (by rw [e]; simp), e])
          clear hn
          go_wp2
          go_ret
          exact ⟨by rw [HRv.out]; rfl, Ext.trans HE1.out HEr.out⟩
        · have d1 : decide (i < 0) = false := by simpa using hn
          by_cases hm : (nl : Int) ≤ i
          · have d2 : decide ((nl : Int) ≤ i) = true := by simpa using hm
            have HRv := Lib.hid (show R = 2 by
              have e : ordE nl 0 order = 2 := by rw [← HE0.out, HD.out, ordE_bad (Or.inr hm)]
              rw [HR1.out, if_pos (by rw [e]; simp), e])
            clear hn hm
            go_wp2
            go_ret
            exact ⟨by rw [HRv.out]; rfl, Ext.trans HE1.out HEr.out⟩
          · obtain ⟨q, rfl⟩ : ∃ q : Nat, i = (q : Int) := ⟨i.toNat, by omega⟩
            have d2 : decide ((nl : Int) ≤ (q : Int)) = false := by simpa using hm
            have d3 : decide (nl ≤ q) = false := by simp; omega
            have hq : q < nl := by omega
            have hsh := shl_one (i := q) (by omega)
            have hs62 := pow_le62 HSL.out hl12
            have hand := i64_and s (2 ^ q) hs62 (pow_small (by omega))
            have hor := i64_or s (2 ^ q) hs62 (pow_small (by omega))
            have HT := Lib.hid (and_pow_zero s q)
            have HOL := Lib.hid (or_lt HSL.out hq)
            have HTW := Lib.hid (fun (hb : s.testBit q = true) => show ordE nl 0 order = 6 by rw [← HE0.out, HD.out, ordE_twice hq hb])
            have HSP := Lib.hid (fun (hb : s.testBit q = false) => show ordE nl (s ||| 2 ^ q) (order.drop (j + 1)) = ordE nl 0 order by rw [← HE0.out, HD.out, ordE_step hq hb])
            have HSO := Lib.hid (show setO (s ||| 2 ^ q) (order.drop (j + 1)) = setO 0 order by rw [← HS0.out, HD.out, setO_step])
            have hq0 : (0 : Int) ≤ (q : Int) := by omega
            have hq64 : (q : Int) ≤ 64 := by omega
            generalize hTT : s &&& 2 ^ q = T at *
            generalize hOO : s ||| 2 ^ q = O at *
            generalize hP2 : 2 ^ q = P2 at *
            clear hn hm hTT hOO hP2 hq hs62
            cases hbit : s.testBit q with
            | true =>
              have g1 : ((T : Int) != 0) = true := by
                have : ¬ T = 0 := fun e => by rw [HT.out.1 e] at hbit; cases hbit
                rw [bne_iff_ne]; omega
              have HRv := Lib.hid (show R = 6 by rw [HR1.out, if_pos (by rw [HTW.out hbit]; simp), HTW.out hbit])
              clear hbit
              go_wp2
              go_ret
              exact ⟨by rw [HRv.out]; rfl, Ext.trans HE1.out HEr.out⟩
            | false =>
              have g1 : ((T : Int) != 0) = false := by rw [HT.out.2 hbit]; rfl
              have HSQ := Lib.hid (HSP.out hbit)
              clear hbit
              go_wp2
              exact ⟨⟨j + 1, O, by omega, by go_num, rfl, HOL.out, HSQ.out, HSO.out, HEr.out⟩, by simp [intOf]; omega⟩
      · have hjl : lo = j := by omega
        subst hjl
        have hz0 : ordE nl 0 order = 0 := by rw [← HE0.out, List.drop_of_length_le (by rw [HLO.out]; exact Nat.le_refl _)]; rfl
        have hs0 : setO 0 order = s := by rw [← HS0.out, List.drop_of_length_le (by rw [HLO.out]; exact Nat.le_refl _)]; rfl
        have HR2 := Lib.hid (show R = if cmpl l (s, []) = false then 7 else folE k z l (beg0 k) order by rw [HR1.out, if_neg (by rw [hz0]; simp), hs0])
        have HIN := Lib.hid (ordE_in order 0 hz0)
        obtain ⟨w2, rfl⟩ : ∃ W, W = wr := ⟨_, rfl⟩
        have HS2 := Lib.hid (HS1.out.ext HEr.out)
        have HE2 := Lib.hid (Ext.trans HE1.out HEr.out)
        have HX2 := Lib.hid (Ext.trans HX1.out HEr.out)
        have hs62 := pow_le62 HSL.out hl12
        have hmu62 := pow_le62 (by have := must_lt l; rw [HNL.out] at this; exact this) hl12
        have handn := i64_andNot (must l) s hmu62 hs62
        have HU := Lib.hid (show andN (must l) s = 0 ↔ cmpl l (s, []) = true from by
          have := andN_zero (must_lt l) (b := s)
          unfold cmpl
          exact this)
        have hb := HS2.out.box
        have HBG := Lib.hid (begin_any HS2.out)
        obtain ⟨p, c1, c2, la, lc, g⟩ := A
        dsimp only at *
        have q4 := cell_of hb (i := 4) rfl
        clear hz0 hs0 HR1 hb HE0 HS0 hs62 hmu62
        generalize andN (must l) s = U at *
        generalize must l = mu at *
        cases hc : cmpl l (s, []) with
        | false =>
          have g1 : ((U : Int) != 0) = true := by
            have : ¬ U = 0 := fun e => by rw [HU.out.1 e] at hc; cases hc
            rw [bne_iff_ne]; omega
          have HRv := Lib.hid (show R = 7 by rw [HR2.out, if_pos hc])
          clear hc
          go_wp2
          go_ret
          exact ⟨by rw [HRv.out]; rfl, HE2.out⟩
        | true =>
          have g1 : ((U : Int) != 0) = false := by rw [HU.out.2 hc]; rfl
          have HR3 := Lib.hid (show R = folE k z l (beg0 k) order by rw [HR2.out, if_neg (by rw [hc]; simp)])
          clear hc HR2 HU
          go_wp2_with fail
          refine HBG.out.mono ?_
          rintro e w3 ⟨a3, c3, rfl, h3, hc3, hE3⟩
          have H3 := Lib.hid h3
          have HE3 := Lib.hid (Ext.trans HE2.out hE3)
          have HX3 := Lib.hid (Ext.trans HX2.out hE3)
          have HE23 := Lib.hid hE3
          clear h3 hE3
          have HGB2 := Lib.hid HGB.out
          have HR4 := Lib.hid HR3.out.symm
          generalize beg0 k = n0 at *
          obtain ⟨s0, L0⟩ := n0
          dsimp only at *
          have HAL := Lib.hid (ext_allocN w3 (.cells #[.int .i64 (s0 : Int), .slice a3 L0.length c3] tNd))
          have HAH := Lib.hid (alloc_here w3 (.cells #[.int .i64 (s0 : Int), .slice a3 L0.length c3] tNd))
          have HST := Lib.hid (show ∃ (j s : Nat) (L : List Int) (a2 : Option Addr) (c2 : Nat), j ≤ lo ∧ Value.int .i64 0 = .int .i64 (j : Int) ∧ Gd k z l (s, L) ∧ folE k z l (s, L) (order.drop j) = R ∧ IntsAt (w3.alloc (.cells #[.int .i64 (s0 : Int), .slice a3 L0.length c3] tNd)) a2 L ∧ L.length ≤ c2 ∧ (L ≠ [] → ∀ x, a2 = some x → x.block ≠ w3.heap.size) ∧ (w3.alloc (.cells #[.int .i64 (s0 : Int), .slice a3 L0.length c3] tNd)).heap[w3.heap.size]? = some (.cells #[.int .i64 (s : Int), .slice a2 L.length c2] tNd (0, 0)) ∧ Ext w3 (w3.alloc (.cells #[.int .i64 (s0 : Int), .slice a3 L0.length c3] tNd)) from by
            refine ⟨0, s0, L0, a3, c3, Nat.zero_le _, rfl, HGB2.out, HR4.out, H3.out.ext HAL.out, hc3, fun hne x e => ?_, HAH.out, HAL.out⟩
            obtain ⟨b, of, e2, hcc⟩ := H3.out 0 (by cases L0 with | nil => exact absurd rfl hne | cons => simp)
            rw [e] at e2
            cases e2
            have := cell_lt hcc
            dsimp only at this
            intro h0
            dsimp only at h0
            omega)
          clear hc3
          go_wp2_with fail
          go_loopw [62] (fun i wr => ∃ (j s : Nat) (L : List Int) (a2 : Option Addr) (c2 : Nat), j ≤ lo ∧ i = .int .i64 (j : Int) ∧ Gd k z l (s, L) ∧ folE k z l (s, L) (order.drop j) = R ∧ IntsAt wr a2 L ∧ L.length ≤ c2 ∧ (L ≠ [] → ∀ x, a2 = some x → x.block ≠ w3.heap.size) ∧ wr.heap[w3.heap.size]? = some (.cells #[.int .i64 (s : Int), .slice a2 L.length c2] tNd (0, 0)) ∧ Ext w3 wr) (fun i _ => lo - (intOf i).toNat)
          case atStart => exact HST.out
          case round =>
            obtain ⟨j, s, L, a2, c2, hj, rfl, hgd, hfo, hIa, hca, hna, hbx, hEr⟩ := hrel
            have HGD := Lib.hid hgd
            have HFO := Lib.hid hfo
            have HIA := Lib.hid hIa
            have HCA := Lib.hid hca
            have HNA := Lib.hid hna
            have HBX := Lib.hid hbx
            have HER := Lib.hid hEr
            clear hgd hfo hIa hca hna hbx hEr HST HAL HAH
            by_cases hlt : j < lo
            · have hjl : j < order.length := by rw [HLO.out]; exact hlt
              have HD := Lib.hid (List.drop_eq_getElem_cons hjl)
              have hin := HIN.out _ (List.getElem_mem hjl)
              obtain ⟨b, off, hob, hcell⟩ := (HOI.out wr (Ext.trans HE3.out HER.out)).at hjl
              have hi0 : (0 : Int) ≤ (j : Int) := by omega
              have hi1 : (j : Int) < (lo : Int) := by omega
              generalize order[j] = i at *
              obtain ⟨q, rfl⟩ : ∃ q : Nat, i = (q : Int) := ⟨i.toNat, by omega⟩
              have hqn : q < nl := by omega
              have hql : q < l.length := by rw [HNL.out]; exact hqn
              have HFE := Lib.hid (show (if subM (bef l q) s l.length = false then 9 else
                if (apM k z L l[q].meth l[q].arg).2.2 ≠ 0 then (apM k z L l[q].meth l[q].arg).2.2 else
                if l[q].en ≠ -1 ∧ (apM k z L l[q].meth l[q].arg).2.1 ≠ l[q].res then 10 else folE k z l (s ||| 2 ^ q, (apM k z L l[q].meth l[q].arg).1) (order.drop (j + 1))) = R by
                rw [← HFO.out, HD.out, folE_step hql])
              have HSS := Lib.hid (show s < 2 ^ nl by have := HGD.out.lt; rw [HNL.out] at this; exact this)
              have HLS := Lib.hid (show stR k z L = true from HGD.out.st)
              have HAP := Lib.hid (fun W (hW : Ext wr W) => apply_any k z L l[q].meth l[q].arg a2 c2 W hk1 hk6 HLS.out (HIA.out.ext hW) HCA.out)
              have HAK := Lib.hid (fun (h : (apM k z L l[q].meth l[q].arg).2.2 = 0) => stR_ap (a := l[q].arg) (m := l[q].meth) hk1 hk6 HLS.out h)
              have HEQ := Lib.hid (HEN.out q hql)
              have HCL := Lib.hid (fun W (hW : Ext wr W) => (HH.out W (Ext.trans HE3.out (Ext.trans HER.out hW))) q hql)
              obtain ⟨bl, ol, hla, x0, x1, x2, x3, x4, x5⟩ := HCL.out wr (Below.refl _ _)
              subst hla hob
              have HCM := Lib.hid (fun W (hW : Ext wr W) => show Cl.cells W bl (ol + q * 6) l[q] from by
                obtain ⟨b', o', e', hc'⟩ := HCL.out W hW
                cases e'
                exact hc')
              have hbi := bfO_get (bef l) l.length q hql
              have HBI := Lib.hid (fun W (hW : Ext wr W) => show (W.cell? ⟨p, 3, none⟩ = some (.slice (some ⟨g, 0, none⟩) nl nl)) ∧ W.cell? ⟨g, q, none⟩ = some (.int .i64 ((bef l q : Nat) : Int)) ∧ (W.cell? ⟨w3.heap.size, 0, none⟩ = some (.int .i64 (s : Int)) ∧ W.cell? ⟨w3.heap.size, 1, none⟩ = some (.slice a2 L.length c2)) ∧
                (W.cell? ⟨w.heap.size, 0, none⟩ = some (.int .i64 k) ∧ W.cell? ⟨w.heap.size, 1, none⟩ = some (.int .i64 z)) from by
                have hs := HS2.out.ext (show Ext w2 W from by have h1 := Ext.trans HE23.out (Ext.trans HER.out hW); exact h1)
                have hbx := (hW.below.block _ (lt_of_block HBX.out)).trans HBX.out
                rw [← HNL.out]
                exact ⟨cell_of hs.box rfl, cell_of hs.bf hbi, ⟨cell_of hbx rfl, cell_of hbx rfl⟩, HMD.out W (Ext.trans HX3.out (Ext.trans HER.out hW))⟩)
              have hU62 := pow_le62 HSS.out hl12
              have hand := i64_andNot (bef l q) s (pow_le62 (by have := bef_lt l q; rw [HNL.out] at this; exact this) hl12) hU62
              have hor := i64_or s (2 ^ q) hU62 (pow_small (by omega))
              have hsh := shl_one (i := q) (by omega)
              have HU := Lib.hid (andN_zero (bef_lt l q) (b := s))
              have HOL := Lib.hid (or_lt HSS.out hqn)
              generalize l[q] = x at *
              obtain ⟨tk, me, ar, re, be, en⟩ := x
              unfold Cl.cells at HCM
              dsimp only at *
              have hq0 : (0 : Int) ≤ (q : Int) := by omega
              have hq1 : (q : Int) < (nl : Int) := by omega
              have hq64 : (q : Int) ≤ 64 := by omega
              obtain ⟨y3, yg, ⟨n0, n1⟩, m0, m1⟩ := HBI.out wr (Below.refl _ _)
              clear hbi hU62 hin hjl hql
              generalize hUU : andN (bef l q) s = U at *
              generalize bef l q = bf at *
              generalize hOO : s ||| 2 ^ q = O at *
              generalize hP2 : 2 ^ q = P2 at *
              clear hUU hOO hP2
              cases hsub : subM bf s l.length with
              | false =>
                have g2 : ((U : Int) != 0) = true := by
                  have : ¬ U = 0 := fun e => by rw [HU.out.1 e] at hsub; cases hsub
                  rw [bne_iff_ne]; omega
                have HRv := Lib.hid (show R = 9 by rw [← HFE.out, if_pos hsub])
                clear hsub
                go_wp2_with fail
                go_quiet (fail)
                go_wp2
                go_ret
                exact ⟨by rw [HRv.out]; rfl, Ext.drewN' (Ext.trans HE3.out HER.out)⟩
              | true =>
                have g2 : ((U : Int) != 0) = false := by rw [HU.out.2 hsub]; rfl
                have HF2 := Lib.hid (show (if (apM k z L me ar).2.2 ≠ 0 then (apM k z L me ar).2.2 else if en ≠ -1 ∧ (apM k z L me ar).2.1 ≠ re then 10 else folE k z l (O, (apM k z L me ar).1) (order.drop (j + 1))) = R by
                  have := HFE.out
                  rw [if_neg (by rw [hsub]; simp)] at this
                  exact this)
                clear hsub HFE
                generalize apM k z L me ar = Z at *
                go_wp2_with fail
                go_quiet (fail)
                generalize hwz : wr.drewN nq = wz at *
                have HEz := Lib.hid (show Ext wr wz by rw [← hwz]; exact Ext.drewN' (Below.refl _ _))
                clear hwz y3 yg n0 n1 m0 m1 x0 x1 x2 x3 x4 x5
                obtain ⟨L1, rs, er⟩ := Z
                dsimp only at *
                obtain ⟨y3, yg, ⟨n0, n1⟩, m0, m1⟩ := HBI.out wz HEz.out
                obtain ⟨x0, x1, x2, x3, x4, x5⟩ := HCM.out wz HEz.out
                go_wp2_with fail
                refine wp_region_tail (l1 := [_, _, _, _, _, _, _, _, _, _, _, _, _, _, _, _, _, _, _, _]) (l2 := [_]) (by kernel_rfl) Ext (fun W => Below.refl _ W) (fun W => show Below W.heap.size W { W with drawn := W.drawn + 1 } from ⟨rfl, rfl, rfl, Nat.le_refl _, fun _ _ => rfl⟩) Ext.trans
                  (fun i s W => match i with
                    | 0 => s 0 = .agg #[.int .i64 k, .int .i64 z]
                    | 1 => s 1 = .pointer (some ⟨w3.heap.size, 1, none⟩)
                    | 2 => s 2 = .slice a2 L.length c2
                    | 3 => s 3 = .slice (some ⟨bl, ol, none⟩) nl c
                    | 4 => s 4 = .int .i64 (q : Int)
                    | 5 => s 5 = .pointer (some ⟨bl, ol + q * 6, none⟩)
                    | 6 => s 6 = .pointer (some ⟨bl, ol + q * 6 + 1, none⟩)
                    | 7 => s 7 = .int .i64 me
                    | 8 => s 8 = .slice (some ⟨bl, ol, none⟩) nl c
                    | 9 => s 9 = .int .i64 (q : Int)
                    | 10 => s 10 = .pointer (some ⟨bl, ol + q * 6, none⟩)
                    | 11 => s 11 = .pointer (some ⟨bl, ol + q * 6 + 2, none⟩)
                    | 12 => s 12 = .int .i64 ar
                    | 13 => ∃ a1 cc1, s 13 = .tuple #[.slice a1 L1.length cc1, .int .i64 rs, .int .i64 er] ∧ IntsAt W a1 L1 ∧ L1.length ≤ cc1 ∧ Frm wz a2 L a1 L1
                    | 14 => ∃ a1 cc1, s 14 = .tuple #[.slice a1 L1.length cc1, .int .i64 rs, .int .i64 er] ∧ IntsAt W a1 L1 ∧ L1.length ≤ cc1 ∧ Frm wz a2 L a1 L1
                    | 15 => ∃ a1 cc1, s 15 = .slice a1 L1.length cc1 ∧ IntsAt W a1 L1 ∧ L1.length ≤ cc1 ∧ Frm wz a2 L a1 L1
                    | 16 => s 16 = .int .i64 rs
                    | 17 => s 17 = .int .i64 er
                    | 18 => ∃ a1 cc1, s 18 = .slice a1 L1.length cc1 ∧ IntsAt W a1 L1 ∧ L1.length ≤ cc1 ∧ Frm wz a2 L a1 L1
                    | 19 => s 19 = .int .i64 rs
                    | _ => True)
                  (fun i => [i])
                  (by
                    intro i s s' W W' h hs hE
                    have hs := hs i (by simp)
                    match i, h, hs with
                    | 0, h, hs => exact hs.trans h
                    | 1, h, hs => exact hs.trans h
                    | 2, h, hs => exact hs.trans h
                    | 3, h, hs => exact hs.trans h
                    | 4, h, hs => exact hs.trans h
                    | 5, h, hs => exact hs.trans h
                    | 6, h, hs => exact hs.trans h
                    | 7, h, hs => exact hs.trans h
                    | 8, h, hs => exact hs.trans h
                    | 9, h, hs => exact hs.trans h
                    | 10, h, hs => exact hs.trans h
                    | 11, h, hs => exact hs.trans h
                    | 12, h, hs => exact hs.trans h
                    | 13, ⟨a1, cc1, h, h1, h2, h3⟩, hs => exact ⟨a1, cc1, hs.trans h, h1.ext hE, h2, h3⟩
                    | 14, ⟨a1, cc1, h, h1, h2, h3⟩, hs => exact ⟨a1, cc1, hs.trans h, h1.ext hE, h2, h3⟩
                    | 15, ⟨a1, cc1, h, h1, h2, h3⟩, hs => exact ⟨a1, cc1, hs.trans h, h1.ext hE, h2, h3⟩
                    | 16, h, hs => exact hs.trans h
                    | 17, h, hs => exact hs.trans h
                    | 18, ⟨a1, cc1, h, h1, h2, h3⟩, hs => exact ⟨a1, cc1, hs.trans h, h1.ext hE, h2, h3⟩
                    | 19, h, hs => exact hs.trans h
                    | i + 20, h, hs => exact trivial)
                  (by kernel_rfl) (by kernel_rfl) (by kernel_rfl) 121 rfl (by kernel_rfl) (by kernel_rfl) ?_ ?_
                · intro i op ho a' W hA
                  obtain ⟨y3, yg, ⟨n0, n1⟩, m0, m1⟩ := HBI.out W (Ext.trans HEz.out hA.rel)
                  obtain ⟨x0, x1, x2, x3, x4, x5⟩ := HCM.out W (Ext.trans HEz.out hA.rel)
                  match i, ho with
                  | 0, ho =>
                    obtain rfl := Option.some.inj ho
                    have e1 : a'.eval (.tmp 3) = .pointer (some ⟨w.heap.size, 0, none⟩) := hA.keep 3 (by kernel_rfl)
                    refine GoesG.value (.agg #[.int .i64 k, .int .i64 z]) rfl ?_ (Below.refl _ _) (fun s h1 h2 => h1 rfl)
                    simp only [execOp, e1]
                    simp [go_sem, m0, m1, n1, x1, x2, hq0, hq1]
                  | 1, ho =>
                    obtain rfl := Option.some.inj ho
                    have e1 : a'.eval (.tmp 12) = .pointer (some ⟨w3.heap.size, 0, none⟩) := hA.keep 12 (by kernel_rfl)
                    refine GoesG.value (.pointer (some ⟨w3.heap.size, 1, none⟩)) rfl ?_ (Below.refl _ _) (fun s h1 h2 => h1 rfl)
                    simp only [execOp, e1]
                    simp [go_sem, m0, m1, n1, x1, x2, hq0, hq1]
                  | 2, ho =>
                    obtain rfl := Option.some.inj ho
                    have e1 : a'.eval (.tmp 79) = .pointer (some ⟨w3.heap.size, 1, none⟩) := (sv_dst (l := _) rfl).symm.trans (hA.new 1 (by decide) (by kernel_rfl))
                    refine GoesG.value (.slice a2 L.length c2) rfl ?_ (Below.refl _ _) (fun s h1 h2 => h1 rfl)
                    simp only [execOp, e1]
                    simp [go_sem, m0, m1, n1, x1, x2, hq0, hq1]
                  | 3, ho =>
                    obtain rfl := Option.some.inj ho
                    have e1 : a'.eval (.tmp 1) = .slice (some ⟨bl, ol, none⟩) nl c := hA.keep 1 (by kernel_rfl)
                    refine GoesG.value (.slice (some ⟨bl, ol, none⟩) nl c) rfl ?_ (Below.refl _ _) (fun s h1 h2 => h1 rfl)
                    simp only [execOp, e1]
                    simp [go_sem, m0, m1, n1, x1, x2, hq0, hq1]
                  | 4, ho =>
                    obtain rfl := Option.some.inj ho
                    have e1 : a'.eval (.tmp 14) = .int .i64 (q : Int) := hA.keep 14 (by kernel_rfl)
                    refine GoesG.value (.int .i64 (q : Int)) rfl ?_ (Below.refl _ _) (fun s h1 h2 => h1 rfl)
                    simp only [execOp, e1]
                    simp [go_sem, m0, m1, n1, x1, x2, hq0, hq1]
                  | 5, ho =>
                    obtain rfl := Option.some.inj ho
                    have e1 : a'.eval (.tmp 81) = .slice (some ⟨bl, ol, none⟩) nl c := (sv_dst (l := _) rfl).symm.trans (hA.new 3 (by decide) (by kernel_rfl))
                    have e2 : a'.eval (.tmp 82) = .int .i64 (q : Int) := (sv_dst (l := _) rfl).symm.trans (hA.new 4 (by decide) (by kernel_rfl))
                    refine GoesG.value (.pointer (some ⟨bl, ol + q * 6, none⟩)) rfl ?_ (Below.refl _ _) (fun s h1 h2 => h1 rfl)
                    simp only [execOp, e1, e2]
                    simp [go_sem, m0, m1, n1, x1, x2, hq0, hq1]
                  | 6, ho =>
                    obtain rfl := Option.some.inj ho
                    have e1 : a'.eval (.tmp 83) = .pointer (some ⟨bl, ol + q * 6, none⟩) := (sv_dst (l := _) rfl).symm.trans (hA.new 5 (by decide) (by kernel_rfl))
                    refine GoesG.value (.pointer (some ⟨bl, ol + q * 6 + 1, none⟩)) rfl ?_ (Below.refl _ _) (fun s h1 h2 => h1 rfl)
                    simp only [execOp, e1]
                    simp [go_sem, m0, m1, n1, x1, x2, hq0, hq1]
                  | 7, ho =>
                    obtain rfl := Option.some.inj ho
                    have e1 : a'.eval (.tmp 84) = .pointer (some ⟨bl, ol + q * 6 + 1, none⟩) := (sv_dst (l := _) rfl).symm.trans (hA.new 6 (by decide) (by kernel_rfl))
                    refine GoesG.value (.int .i64 me) rfl ?_ (Below.refl _ _) (fun s h1 h2 => h1 rfl)
                    simp only [execOp, e1]
                    simp [go_sem, m0, m1, n1, x1, x2, hq0, hq1]
                  | 8, ho =>
                    obtain rfl := Option.some.inj ho
                    have e1 : a'.eval (.tmp 1) = .slice (some ⟨bl, ol, none⟩) nl c := hA.keep 1 (by kernel_rfl)
                    refine GoesG.value (.slice (some ⟨bl, ol, none⟩) nl c) rfl ?_ (Below.refl _ _) (fun s h1 h2 => h1 rfl)
                    simp only [execOp, e1]
                    simp [go_sem, m0, m1, n1, x1, x2, hq0, hq1]
                  | 9, ho =>
                    obtain rfl := Option.some.inj ho
                    have e1 : a'.eval (.tmp 14) = .int .i64 (q : Int) := hA.keep 14 (by kernel_rfl)
                    refine GoesG.value (.int .i64 (q : Int)) rfl ?_ (Below.refl _ _) (fun s h1 h2 => h1 rfl)
                    simp only [execOp, e1]
                    simp [go_sem, m0, m1, n1, x1, x2, hq0, hq1]
                  | 10, ho =>
                    obtain rfl := Option.some.inj ho
                    have e1 : a'.eval (.tmp 86) = .slice (some ⟨bl, ol, none⟩) nl c := (sv_dst (l := _) rfl).symm.trans (hA.new 8 (by decide) (by kernel_rfl))
                    have e2 : a'.eval (.tmp 87) = .int .i64 (q : Int) := (sv_dst (l := _) rfl).symm.trans (hA.new 9 (by decide) (by kernel_rfl))
                    refine GoesG.value (.pointer (some ⟨bl, ol + q * 6, none⟩)) rfl ?_ (Below.refl _ _) (fun s h1 h2 => h1 rfl)
                    simp only [execOp, e1, e2]
                    simp [go_sem, m0, m1, n1, x1, x2, hq0, hq1]
                  | 11, ho =>
                    obtain rfl := Option.some.inj ho
                    have e1 : a'.eval (.tmp 88) = .pointer (some ⟨bl, ol + q * 6, none⟩) := (sv_dst (l := _) rfl).symm.trans (hA.new 10 (by decide) (by kernel_rfl))
                    refine GoesG.value (.pointer (some ⟨bl, ol + q * 6 + 2, none⟩)) rfl ?_ (Below.refl _ _) (fun s h1 h2 => h1 rfl)
                    simp only [execOp, e1]
                    simp [go_sem, m0, m1, n1, x1, x2, hq0, hq1]
                  | 12, ho =>
                    obtain rfl := Option.some.inj ho
                    have e1 : a'.eval (.tmp 89) = .pointer (some ⟨bl, ol + q * 6 + 2, none⟩) := (sv_dst (l := _) rfl).symm.trans (hA.new 11 (by decide) (by kernel_rfl))
                    refine GoesG.value (.int .i64 ar) rfl ?_ (Below.refl _ _) (fun s h1 h2 => h1 rfl)
                    simp only [execOp, e1]
                    simp [go_sem, m0, m1, n1, x1, x2, hq0, hq1]
                  | 13, ho =>
                    obtain rfl := Option.some.inj ho
                    have e1 : a'.eval (.tmp 78) = .agg #[.int .i64 k, .int .i64 z] := (sv_dst (l := _) rfl).symm.trans (hA.new 0 (by decide) (by kernel_rfl))
                    have e2 : a'.eval (.tmp 80) = .slice a2 L.length c2 := (sv_dst (l := _) rfl).symm.trans (hA.new 2 (by decide) (by kernel_rfl))
                    have e3 : a'.eval (.tmp 85) = .int .i64 me := (sv_dst (l := _) rfl).symm.trans (hA.new 7 (by decide) (by kernel_rfl))
                    have e4 : a'.eval (.tmp 90) = .int .i64 ar := (sv_dst (l := _) rfl).symm.trans (hA.new 12 (by decide) (by kernel_rfl))
                    refine GoesG.call 45 #[.agg #[.int .i64 k, .int .i64 z], .slice a2 L.length c2, .int .i64 me, .int .i64 ar] rfl ?_ ?_
                    · have en := enters_fn Tryd.func45 (by kernel_rfl) rfl
                      simp [Act.eval] at e1 e2 e3 e4
                      simp [execOp, go_sem, e1, e2, e3, e4, en]
                    · refine (HAP.out W (Ext.trans HEz.out hA.rel)).mono ?_
                      rintro e W2 ⟨a1, cc1, rfl, h1, h2, h3, h4⟩
                      exact ⟨_, rfl, h3, fun s g1 g2 => ⟨a1, cc1, g1 rfl, h1, h2, h4.up hA.rel⟩⟩
                  | 14, ho =>
                    obtain rfl := Option.some.inj ho
                    obtain ⟨a1, cc1, e0, h1, h2, h3⟩ := hA.new 13 (by decide) (by kernel_rfl)
                    have e1 : a'.eval (.tmp 91) = .tuple #[.slice a1 L1.length cc1, .int .i64 rs, .int .i64 er] := (sv_dst (l := _) rfl).symm.trans e0
                    refine GoesG.value (.tuple #[.slice a1 L1.length cc1, .int .i64 rs, .int .i64 er]) rfl ?_ (Below.refl _ _) (fun s g1 g2 => ⟨a1, cc1, g1 rfl, h1, h2, h3⟩)
                    simp only [execOp, e1]
                    simp [go_sem]
                  | 15, ho =>
                    obtain rfl := Option.some.inj ho
                    obtain ⟨a1, cc1, e0, h1, h2, h3⟩ := hA.new 14 (by decide) (by kernel_rfl)
                    have e1 : a'.eval (.tmp 77) = .tuple #[.slice a1 L1.length cc1, .int .i64 rs, .int .i64 er] := (sv_dst (l := _) rfl).symm.trans e0
                    refine GoesG.value (.slice a1 L1.length cc1) rfl ?_ (Below.refl _ _) (fun s g1 g2 => ⟨a1, cc1, g1 rfl, h1, h2, h3⟩)
                    simp only [execOp, e1]
                    simp [go_sem]
                  | 16, ho =>
                    obtain rfl := Option.some.inj ho
                    obtain ⟨a1, cc1, e0, h1, h2, h3⟩ := hA.new 14 (by decide) (by kernel_rfl)
                    have e1 : a'.eval (.tmp 77) = .tuple #[.slice a1 L1.length cc1, .int .i64 rs, .int .i64 er] := (sv_dst (l := _) rfl).symm.trans e0
                    refine GoesG.value (.int .i64 rs) rfl ?_ (Below.refl _ _) (fun s g1 g2 => g1 rfl)
                    simp only [execOp, e1]
                    simp [go_sem]
                  | 17, ho =>
                    obtain rfl := Option.some.inj ho
                    obtain ⟨a1, cc1, e0, h1, h2, h3⟩ := hA.new 14 (by decide) (by kernel_rfl)
                    have e1 : a'.eval (.tmp 77) = .tuple #[.slice a1 L1.length cc1, .int .i64 rs, .int .i64 er] := (sv_dst (l := _) rfl).symm.trans e0
                    refine GoesG.value (.int .i64 er) rfl ?_ (Below.refl _ _) (fun s g1 g2 => g1 rfl)
                    simp only [execOp, e1]
                    simp [go_sem]
                  | 18, ho =>
                    obtain rfl := Option.some.inj ho
                    obtain ⟨a1, cc1, e0, h1, h2, h3⟩ := hA.new 15 (by decide) (by kernel_rfl)
                    have e1 : a'.eval (.tmp 92) = .slice a1 L1.length cc1 := (sv_dst (l := _) rfl).symm.trans e0
                    refine GoesG.value (.slice a1 L1.length cc1) rfl ?_ (Below.refl _ _) (fun s g1 g2 => ⟨a1, cc1, g1 rfl, h1, h2, h3⟩)
                    simp only [execOp, e1]
                    simp [go_sem]
                  | 19, ho =>
                    obtain rfl := Option.some.inj ho
                    have e1 : a'.eval (.tmp 93) = .int .i64 rs := (sv_dst (l := _) rfl).symm.trans (hA.new 16 (by decide) (by kernel_rfl))
                    refine GoesG.value (.int .i64 rs) rfl ?_ (Below.refl _ _) (fun s h1 h2 => h1 rfl)
                    simp only [execOp, e1]
                    simp [go_sem, m0, m1, n1, x1, x2, hq0, hq1]
                  | i + 20, ho => cases ho
                · intro vs w4 hvs hG hΦ
                  obtain ⟨y0, y1, y2, y3, y4, y5, y6, y7, y8, y9, y10, y11, y12, y13, y14, y15, y16, y17, y18, y19, rfl⟩ : ∃ y0 y1 y2 y3 y4 y5 y6 y7 y8 y9 y10 y11 y12 y13 y14 y15 y16 y17 y18 y19, vs = y0 :: y1 :: y2 :: y3 :: y4 :: y5 :: y6 :: y7 :: y8 :: y9 :: y10 :: y11 :: y12 :: y13 :: y14 :: y15 :: y16 :: y17 :: y18 :: y19 :: [] := by
                    match vs, hvs with
                    | y0 :: y1 :: y2 :: y3 :: y4 :: y5 :: y6 :: y7 :: y8 :: y9 :: y10 :: y11 :: y12 :: y13 :: y14 :: y15 :: y16 :: y17 :: y18 :: y19 :: [], _ => exact ⟨y0, y1, y2, y3, y4, y5, y6, y7, y8, y9, y10, y11, y12, y13, y14, y15, y16, y17, y18, y19, rfl⟩
                  have e0 : y0 = .agg #[.int .i64 k, .int .i64 z] := hΦ 0 (by decide)
                  subst e0
                  have e1 : y1 = .pointer (some ⟨w3.heap.size, 1, none⟩) := hΦ 1 (by decide)
                  subst e1
                  have e2 : y2 = .slice a2 L.length c2 := hΦ 2 (by decide)
                  subst e2
                  have e3 : y3 = .slice (some ⟨bl, ol, none⟩) nl c := hΦ 3 (by decide)
                  subst e3
                  have e4 : y4 = .int .i64 (q : Int) := hΦ 4 (by decide)
                  subst e4
                  have e5 : y5 = .pointer (some ⟨bl, ol + q * 6, none⟩) := hΦ 5 (by decide)
                  subst e5
                  have e6 : y6 = .pointer (some ⟨bl, ol + q * 6 + 1, none⟩) := hΦ 6 (by decide)
                  subst e6
                  have e7 : y7 = .int .i64 me := hΦ 7 (by decide)
                  subst e7
                  have e8 : y8 = .slice (some ⟨bl, ol, none⟩) nl c := hΦ 8 (by decide)
                  subst e8
                  have e9 : y9 = .int .i64 (q : Int) := hΦ 9 (by decide)
                  subst e9
                  have e10 : y10 = .pointer (some ⟨bl, ol + q * 6, none⟩) := hΦ 10 (by decide)
                  subst e10
                  have e11 : y11 = .pointer (some ⟨bl, ol + q * 6 + 2, none⟩) := hΦ 11 (by decide)
                  subst e11
                  have e12 : y12 = .int .i64 ar := hΦ 12 (by decide)
                  subst e12
                  have p13 : ∃ a1 cc1, y13 = .tuple #[.slice a1 L1.length cc1, .int .i64 rs, .int .i64 er] ∧ IntsAt w4 a1 L1 ∧ L1.length ≤ cc1 ∧ Frm wz a2 L a1 L1 := hΦ 13 (by decide)
                  have p14 : ∃ a1 cc1, y14 = .tuple #[.slice a1 L1.length cc1, .int .i64 rs, .int .i64 er] ∧ IntsAt w4 a1 L1 ∧ L1.length ≤ cc1 ∧ Frm wz a2 L a1 L1 := hΦ 14 (by decide)
                  have p15 : ∃ a1 cc1, y15 = .slice a1 L1.length cc1 ∧ IntsAt w4 a1 L1 ∧ L1.length ≤ cc1 ∧ Frm wz a2 L a1 L1 := hΦ 15 (by decide)
                  have e16 : y16 = .int .i64 rs := hΦ 16 (by decide)
                  subst e16
                  have e17 : y17 = .int .i64 er := hΦ 17 (by decide)
                  subst e17
                  have p18 : ∃ a1 cc1, y18 = .slice a1 L1.length cc1 ∧ IntsAt w4 a1 L1 ∧ L1.length ≤ cc1 ∧ Frm wz a2 L a1 L1 := hΦ 18 (by decide)
                  have e19 : y19 = .int .i64 rs := hΦ 19 (by decide)
                  subst e19
                  clear hΦ hvs
                  simp only [putAll, Act.put, List.setIfInBounds_toArray, List.set_cons_succ, List.set_cons_zero]
                  obtain ⟨a5, c5, h15, hI5, hc5, hF5⟩ := p18
                  subst h15
                  obtain ⟨w5, rfl⟩ : ∃ W, W = w4 := ⟨_, rfl⟩
                  have HI5 := Lib.hid hI5
                  have HE5 := Lib.hid (Ext.trans HEz.out (show Ext wz w5 from hG))
                  have HF5 := Lib.hid hF5
                  have HC5 := Lib.hid hc5
                  clear hI5 hc5 hF5 p13 p14 p15 hG y3 yg n0 n1 m0 m1 x0 x1 x2 x3 x4 x5
                  have HEw := Lib.hid (Ext.trans HE3.out (Ext.trans HER.out HE5.out))
                  obtain ⟨x0, x1, x2, x3, x4, x5⟩ := HCM.out w5 HE5.out
                  by_cases her : er = 0
                  · subst her
                    have HF3 := Lib.hid (show (if en ≠ -1 ∧ rs ≠ re then 10 else folE k z l (O, L1) (order.drop (j + 1))) = R from by
                      have := HF2.out
                      rw [if_neg (by simp)] at this
                      exact this)
                    by_cases hbad : en ≠ -1 ∧ rs ≠ re
                    · have HRv := Lib.hid (show R = 10 by rw [← HF3.out, if_pos hbad])
                      have g4 : decide (0 ≤ en) = true := by simp; have := HEQ.out; omega
                      have g5 : (rs != re) = true := by rw [bne_iff_ne]; exact hbad.2
                      clear hbad
                      go_wp2
                      go_ret
                      exact ⟨by rw [HRv.out]; rfl, HEw.out⟩
                    · have HFN := Lib.hid (show folE k z l (O, L1) (order.drop (j + 1)) = R from by
                        have := HF3.out
                        rw [if_neg hbad] at this
                        exact this)
                      have hcase : (decide (0 ≤ en) = false) ∨ (decide (0 ≤ en) = true ∧ (rs != re) = false) := by
                        by_cases h0 : 0 ≤ en
                        · right
                          refine ⟨by simpa using h0, ?_⟩
                          by_cases h1 : rs = re
                          · simpa using h1
                          · exact absurd ⟨by omega, h1⟩ hbad
                        · left; simpa using h0
                      have HBX5 := Lib.hid ((HE5.out.below.block _ (lt_of_block HBX.out)).trans HBX.out)
                      have z0 : w5.cell? ⟨w3.heap.size, 0, none⟩ = some (.int .i64 (s : Int)) := cell_of HBX5.out rfl
                      have z1 : w5.cell? ⟨w3.heap.size, 1, none⟩ = some (.slice a2 L.length c2) := cell_of HBX5.out rfl
                      have f0 := free_of (i := 0) HBX5.out
                      have f1 := free_of (i := 1) HBX5.out
                      clear hbad
                      rcases hcase with g4 | ⟨g4, g5⟩
                      all_goals
                        go_wp2_with fail
                        go_still_tail 7, (by kernel_rfl)
                        go_wp2
                        obtain ⟨W', hW', h4, h5, h6⟩ := put2 HBX5.out rfl (.int .i64 (O : Int)) (.slice a5 L1.length c5)
                        rw [hW']
                        have hnew : L1 ≠ [] → ∀ x, a5 = some x → x.block ≠ w3.heap.size := fun hne x e => by
                          rcases HF5.out with h | ⟨h, h'⟩
                          · have h1 := h x e; have h2 := HEz.out.size; have h3 := lt_of_block HBX.out; omega
                          · rw [h'] at hne; exact HNA.out hne x (h ▸ e)
                        exact ⟨⟨j + 1, O, L1, a5, c5, by omega, by go_num, ⟨by rw [HNL.out]; exact HOL.out, HAK.out trivial⟩, HFN.out, (by
                          cases L1 with
                          | nil => exact IntsAt.nil
                          | cons y t => exact HI5.out.turn HBX5.out (fun j _ hj => h6 j hj) (fun x e => hnew (by simp) x e)), HC5.out, hnew, h4, (Below.trans (Ext.trans HER.out HE5.out) (h5 _ (Nat.le_refl _))).drew⟩, by simp [intOf]; omega⟩
                  · have HRv := Lib.hid (show R = er by rw [← HF2.out, if_pos her])
                    have g3 : (er != 0) = true := by rw [bne_iff_ne]; exact her
                    clear her
                    go_wp2
                    go_ret
                    exact ⟨by rw [HRv.out]; rfl, HEw.out⟩
            · have hjl : lo = j := by omega
              subst hjl
              have HRv := Lib.hid (show R = 0 by rw [← HFO.out, List.drop_of_length_le (by rw [HLO.out]; exact Nat.le_refl _)]; rfl)
              go_wp2
              go_ret
              exact ⟨by rw [HRv.out]; rfl, Ext.trans HE3.out HER.out⟩
  · have HN := Lib.hid (newS_bad k z l a c wk (HH.out wk HX.out) hlen hb)
    have HRv := Lib.hid (show R = srE k z l by rw [HR.out, if_pos hb])
    have g1 : (srE k z l != 0) = true := by rw [bne_iff_ne]; exact hb
    generalize srE k z l = E at *
    unfold maxLen at hlen
    clear h hb HR hwk hO HOI
    generalize order.length = lo at *
    obtain ⟨m0, m1⟩ := HMD.out wk (Below.refl _ _)
    go_enter Tryd.func21, Tryd.ntmps21
    go_wp2_with fail
    try rw [hwk']
    refine HN.out.mono ?_
    intro w1 hE
    have HE1 := Lib.hid (Ext.trans HX.out hE)
    clear hE m0 m1
    go_wp2
    go_ret
    exact ⟨by rw [HRv.out]; rfl, HE1.out⟩
end Go.Proofs.YtmbkjccckmlacaaDoor

namespace Go.Proofs.YtmbkjccckmlacaaDoor
open Go.RowKit
set_option linter.unusedVariables false
set_option linter.unusedSimpArgs false

theorem isState1_any (x : Int) (w : World) : Gives Tryd.prog 73 #[.int .i64 x] w (.bool (!inM x)) := by
  unfold Gives
  have C := inRange_any x w
  generalize inM x = b at *
  go_enter Tryd.func73, Tryd.ntmps73
  go_wp2_with fail
  refine C.mono ?_
  intro w2 hB2
  go_wp2
  go_ret
  exact ⟨rfl, hB2⟩
set_option maxHeartbeats 1000000 in
theorem indexOut_any (l : List Int) (a : Option Addr) (cap : Nat) (w : World) (hl : l.length ≤ maxLen) (h : IntsAt w a l) :
    Calls Tryd.prog 89 #[.slice a l.length cap, .func (.func 73) #[] #[]] w fun e w' => (∃ r : Int, e = .returned (.int .i64 r) ∧ decide (0 ≤ r) = !l.all inM) ∧ Below w.heap.size w w' := by
  unfold maxLen at hl
  go_enter Tryd.func89, Tryd.ntmps89
  go_wp2
  go_loopw [8] (fun i wr => ∃ j : Nat, j ≤ l.length ∧ i = .int .i64 j ∧ (l.take j).all inM = true ∧ Below w.heap.size w wr) (fun i _ => l.length - (intOf i).toNat)
  case atStart => exact ⟨0, Nat.zero_le _, rfl, by simp, Below.refl _ _⟩
  case round =>
    obtain ⟨j, hj, rfl, hA, hB⟩ := hrel
    by_cases hlt : j < l.length
    · obtain ⟨b, off, rfl, hc⟩ := (h.below hB).at hlt
      have hs : l.take (j + 1) = l.take j ++ [l[j]] := List.take_succ_eq_append_getElem hlt
      have HN := Lib.hid (show l[j] ∈ l from List.getElem_mem hlt)
      have HS := Lib.hid (show (l.take (j + 1)).all inM = (inM l[j]) by rw [hs, List.all_append, hA]; simp)
      clear hs
      generalize l[j] = x at *
      have C := isState1_any x
      cases hq : inM x with
      | false =>
        rw [hq] at C
        have HV := Lib.hid (show l.all inM = false from by
          cases h : l.all inM with
          | false => rfl
          | true => have := List.all_eq_true.1 h x HN.out; rw [hq] at this; cases this)
        go_wp2_with fail
        refine (C _).mono ?_
        intro w2 hB2
        go_wp2
        go_ret
        exact ⟨⟨_, rfl, by rw [HV.out]; simp⟩, hB.trans (hB2.mono hB.size)⟩
      | true =>
        rw [hq] at C
        go_wp2_with fail
        refine (C _).mono ?_
        intro w2 hB2
        go_wp2
        go_roundw
        case rel => exact ⟨j + 1, by omega, by go_num, by rw [HS.out, hq], hB.trans (hB2.mono hB.size)⟩
        case measure => simp [intOf]; omega
    · have hk : l.take j = l := List.take_of_length_le (by omega)
      rw [hk] at hA
      have HA := Lib.hid hA
      clear hA
      go_wp2
      go_ret
      exact ⟨⟨_, rfl, by rw [HA.out]; simp⟩, hB⟩
theorem containsOut_any (l : List Int) (a : Option Addr) (cap : Nat) (w : World) (hl : l.length ≤ maxLen) (h : IntsAt w a l) :
    Gives Tryd.prog 72 #[.slice a l.length cap, .func (.func 73) #[] #[]] w (.bool (!l.all inM)) := by
  unfold Gives
  have C := Lib.hid (indexOut_any l a cap w hl h)
  generalize (!l.all inM) = b at *
  generalize l.length = n at *
  clear h
  go_enter Tryd.func72, Tryd.ntmps72
  go_wp2_with fail
  refine C.out.mono ?_
  rintro e w2 ⟨⟨r, rfl, hr⟩, hB2⟩
  go_wp2
  go_ret
  exact ⟨rfl, hB2⟩
theorem ascL_adj : ∀ {l : List Int}, ascL l = true ↔ ∀ i (h : i + 1 < l.length), l[i] < l[i + 1]
  | [] => by simp [ascL]
  | [x] => by simp [ascL]
  | x :: y :: t => by
    rw [ascL, Bool.and_eq_true, decide_eq_true_eq, ascL_adj]
    constructor
    · rintro ⟨h1, h2⟩ i h
      cases i with
      | zero => exact h1
      | succ i => exact h2 i (by simpa using h)
    · intro h
      exact ⟨h 0 (by simp), fun i hi => h (i + 1) (by simpa using hi)⟩
set_option maxRecDepth 100000 in
set_option maxHeartbeats 4000000 in
theorem isState_any (k z : Int) (l : List Int) (a : Option Addr) (c : Nat) (w : World) (hk1 : 1 ≤ k) (hk6 : k ≤ 6) (hl : l.length ≤ maxLen) (hA : IntsAt w a l) :
    Gives Tryd.prog 49 #[.agg #[.int .i64 k, .int .i64 z], .slice a l.length c] w (.bool (stR k z l)) := by
  unfold Gives
  have HX := Lib.hid (ext_allocN w (.cells #[.int .i64 k, .int .i64 z] 23))
  have HMD := Lib.hid (mdCells w k z)
  have HAA := Lib.hid (fun W (hW : Ext w W) => hA.ext hW)
  have KC := Lib.hid (fun W (hW : Ext w W) => containsOut_any l a c W hl (hA.ext hW))
  have HR := Lib.hid (show stR k z l = (l.all inM && (if k = 1 ∨ k = 2 then decide (l.length = 1) else if k = 6 then decide (l = [0] ∨ l = [1]) else decide (l.length ≤ 100 ∧ (z ≤ 0 ∨ (l.length : Int) ≤ z)) && (decide (k ≠ 5) || ascL l))) from rfl)
  generalize stR k z l = R at *
  obtain ⟨len, hlen⟩ : ∃ n, l.length = n := ⟨_, rfl⟩
  rw [hlen] at KC HR hl ⊢
  have HL := Lib.hid hlen
  unfold maxLen at hl
  clear hlen hA
  cases hall : l.all inM with
  | false =>
    rw [hall] at KC
    have HRv := Lib.hid (show R = false by rw [HR.out, hall]; rfl)
    clear HR hall
    go_enter Tryd.func49, Tryd.ntmps49
    go_wp2_with fail
    refine (KC.out _ HX.out).mono ?_
    intro w2 hE2
    have HE2 := Lib.hid (Ext.trans HX.out hE2)
    clear hE2
    go_wp2
    go_ret
    exact ⟨by rw [HRv.out]; rfl, HE2.out⟩
  | true =>
    rw [hall] at KC
    have HR1 := Lib.hid (show R = (if k = 1 ∨ k = 2 then decide (len = 1) else if k = 6 then decide (l = [0] ∨ l = [1]) else decide (len ≤ 100 ∧ (z ≤ 0 ∨ (len : Int) ≤ z)) && (decide (k ≠ 5) || ascL l)) by rw [HR.out, hall]; rfl)
    clear HR hall
    have hkk : k = 1 ∨ k = 2 ∨ k = 6 ∨ k = 3 ∨ k = 4 ∨ k = 5 := by omega
    clear hk1 hk6
    rcases hkk with rfl | rfl | rfl | hk
    · have HRv := Lib.hid (show R = decide (len = 1) by rw [HR1.out]; rfl)
      clear HR1
      have g1 : ((len : Int) == 1) = decide (len = 1) := by rw [Bool.eq_iff_iff]; simp; omega
      generalize decide (len = 1) = b at *
      go_enter Tryd.func49, Tryd.ntmps49
      go_wp2_with fail
      refine (KC.out _ HX.out).mono ?_
      intro w2 hE2
      obtain ⟨m0, m1⟩ := HMD.out w2 hE2
      have HE2 := Lib.hid (Ext.trans HX.out hE2)
      clear hE2
      go_wp2
      go_ret
      exact ⟨by rw [HRv.out]; rfl, HE2.out⟩
    · have HRv := Lib.hid (show R = decide (len = 1) by rw [HR1.out]; rfl)
      clear HR1
      have g1 : ((len : Int) == 1) = decide (len = 1) := by rw [Bool.eq_iff_iff]; simp; omega
      generalize decide (len = 1) = b at *
      go_enter Tryd.func49, Tryd.ntmps49
      go_wp2_with fail
      refine (KC.out _ HX.out).mono ?_
      intro w2 hE2
      obtain ⟨m0, m1⟩ := HMD.out w2 hE2
      have HE2 := Lib.hid (Ext.trans HX.out hE2)
      clear hE2
      go_wp2
      go_ret
      exact ⟨by rw [HRv.out]; rfl, HE2.out⟩
    · have HRv := Lib.hid (show R = decide (l = [0] ∨ l = [1]) by rw [HR1.out]; rfl)
      clear HR1
      by_cases h1 : len = 1
      · subst h1
        match l, HL.out with
        | [x], _ =>
          obtain ⟨b, off, ha, -⟩ := HAA.out w (Below.refl _ _) 0 (by simp)
          subst ha
          have HC0 := Lib.hid (fun W (hW : Ext w W) => show W.cell? ⟨b, off, none⟩ = some (.int .i64 x) from by
            obtain ⟨b', off', e, hc⟩ := HAA.out W hW 0 (by simp)
            cases e
            exact hc)
          have HRw := Lib.hid (show R = (decide (x = 0) || decide (x = 1)) by rw [HRv.out]; simp)
          clear HRv HAA HL
          go_enter Tryd.func49, Tryd.ntmps49
          go_wp2_with fail
          refine (KC.out _ HX.out).mono ?_
          intro w2 hE2
          obtain ⟨m0, m1⟩ := HMD.out w2 hE2
          have HE2 := Lib.hid (Ext.trans HX.out hE2)
          have c0 := HC0.out w2 HE2.out
          clear hE2
          by_cases hx0 : x = 0
          · have g1 : (x == 0) = true := by simpa using hx0
            have HRx := Lib.hid (show R = true by rw [HRw.out, hx0]; rfl)
            clear hx0
            go_wp2
            go_ret
            exact ⟨by rw [HRx.out]; rfl, HE2.out⟩
          · have g1 : (x == 0) = false := by simpa using hx0
            by_cases hx1 : x = 1
            · have g2 : (x == 1) = true := by simpa using hx1
              have HRx := Lib.hid (show R = true by rw [HRw.out, hx1]; rfl)
              clear hx0 hx1
              go_wp2
              go_ret
              exact ⟨by rw [HRx.out]; rfl, HE2.out⟩
            · have g2 : (x == 1) = false := by simpa using hx1
              have HRx := Lib.hid (show R = false by rw [HRw.out]; simp [hx0, hx1])
              clear hx0 hx1
              go_wp2
              go_ret
              exact ⟨by rw [HRx.out]; rfl, HE2.out⟩
      · have g1 : ((len : Int) == 1) = false := by simp; omega
        have HRx := Lib.hid (show R = false by
          rw [HRv.out, decide_eq_false_iff_not]
          rintro (e | e) <;> rw [← HL.out, e] at h1 <;> exact h1 rfl)
        clear HRv h1
        go_enter Tryd.func49, Tryd.ntmps49
        go_wp2_with fail
        refine (KC.out _ HX.out).mono ?_
        intro w2 hE2
        obtain ⟨m0, m1⟩ := HMD.out w2 hE2
        have HE2 := Lib.hid (Ext.trans HX.out hE2)
        clear hE2
        go_wp2
        go_ret
        exact ⟨by rw [HRx.out]; rfl, HE2.out⟩
    · have HRv := Lib.hid (show R = (decide (len ≤ 100 ∧ (z ≤ 0 ∨ (len : Int) ≤ z)) && (decide (k ≠ 5) || ascL l)) by rw [HR1.out, if_neg (by omega), if_neg (by omega)])
      clear HR1
      have d1 : (k == 1) = false := by simp; omega
      have d2 : (k == 2) = false := by simp; omega
      have d6 : (k == 6) = false := by simp; omega
      by_cases h100 : 100 < len
      · have g1 : decide ((100 : Int) < (len : Int)) = true := by simp; omega
        have HRx := Lib.hid (show R = false by rw [HRv.out, decide_eq_false (by omega)]; rfl)
        clear HRv h100 hk
        go_enter Tryd.func49, Tryd.ntmps49
        go_wp2_with fail
        refine (KC.out _ HX.out).mono ?_
        intro w2 hE2
        obtain ⟨m0, m1⟩ := HMD.out w2 hE2
        have HE2 := Lib.hid (Ext.trans HX.out hE2)
        clear hE2
        go_wp2
        go_ret
        exact ⟨by rw [HRx.out]; rfl, HE2.out⟩
      · have g1 : decide ((100 : Int) < (len : Int)) = false := by simp; omega
        by_cases hzz : 0 < z ∧ z < (len : Int)
        · have g2 : decide (0 < z) = true := by simpa using hzz.1
          have g3 : decide (z < (len : Int)) = true := by simpa using hzz.2
          have HRx := Lib.hid (show R = false by rw [HRv.out, decide_eq_false (by omega)]; rfl)
          clear HRv h100 hk hzz
          go_enter Tryd.func49, Tryd.ntmps49
          go_wp2_with fail
          refine (KC.out _ HX.out).mono ?_
          intro w2 hE2
          obtain ⟨m0, m1⟩ := HMD.out w2 hE2
          have HE2 := Lib.hid (Ext.trans HX.out hE2)
          clear hE2
          go_wp2
          go_ret
          exact ⟨by rw [HRx.out]; rfl, HE2.out⟩
        · have hcase : decide (0 < z) = false ∨ (decide (0 < z) = true ∧ decide (z < (len : Int)) = false) := by
            by_cases h0 : 0 < z
            · right; exact ⟨by simpa using h0, by simp; omega⟩
            · left; simpa using h0
          have HRw := Lib.hid (show R = (decide (k ≠ 5) || ascL l) by rw [HRv.out, decide_eq_true (by omega)]; rfl)
          clear HRv hzz
          rcases hk with rfl | rfl | rfl
          · have HRx := Lib.hid (show R = true by rw [HRw.out]; rfl)
            clear HRw h100
            rcases hcase with g2 | ⟨g2, g3⟩
            all_goals
              go_enter Tryd.func49, Tryd.ntmps49
              go_wp2_with fail
              refine (KC.out _ HX.out).mono ?_
              intro w2 hE2
              obtain ⟨m0, m1⟩ := HMD.out w2 hE2
              have HE2 := Lib.hid (Ext.trans HX.out hE2)
              clear hE2
              go_wp2
              go_ret
              exact ⟨by rw [HRx.out]; rfl, HE2.out⟩
          · have HRx := Lib.hid (show R = true by rw [HRw.out]; rfl)
            clear HRw h100
            rcases hcase with g2 | ⟨g2, g3⟩
            all_goals
              go_enter Tryd.func49, Tryd.ntmps49
              go_wp2_with fail
              refine (KC.out _ HX.out).mono ?_
              intro w2 hE2
              obtain ⟨m0, m1⟩ := HMD.out w2 hE2
              have HE2 := Lib.hid (Ext.trans HX.out hE2)
              clear hE2
              go_wp2
              go_ret
              exact ⟨by rw [HRx.out]; rfl, HE2.out⟩
          · have HRx := Lib.hid (show R = ascL l by rw [HRw.out]; simp)
            clear HRw h100
            rcases hcase with g2 | ⟨g2, g3⟩
            all_goals
              go_enter Tryd.func49, Tryd.ntmps49
              go_wp2_with fail
              refine (KC.out _ HX.out).mono ?_
              intro w2 hE2
              obtain ⟨m0, m1⟩ := HMD.out w2 hE2
              have HE2 := Lib.hid (Ext.trans HX.out hE2)
              clear hE2
              go_wp2_with fail
              go_loopw [5] (fun i wr => ∃ q : Nat, i = .int .i64 ((q : Int) + 1) ∧ q ≤ len ∧ (∀ i (h : i + 1 < l.length), i < q → l[i] < l[i + 1]) ∧ Ext w2 wr) (fun i _ => len - (intOf i).toNat)
              case atStart => exact ⟨0, rfl, Nat.zero_le _, fun i h h' => by omega, Below.refl _ _⟩
              case round =>
                obtain ⟨q, rfl, hql, hin, hEr⟩ := hrel
                have HIN := Lib.hid hin
                have HER := Lib.hid (Ext.trans HE2.out hEr)
                have HER2 := Lib.hid hEr
                clear hin hEr
                by_cases hlt : q + 1 < len
                · have hjl : q + 1 < l.length := by rw [HL.out]; exact hlt
                  obtain ⟨b, off, ha, hc0⟩ := HAA.out wr HER.out q (by omega)
                  obtain ⟨b', off', ha', hc1⟩ := HAA.out wr HER.out (q + 1) hjl
                  rw [ha] at ha'
                  cases ha'
                  subst ha
                  have hc1' : wr.cell? ⟨b, off + q + 1, none⟩ = some (.int .i64 l[q + 1]) := hc1
                  have hq0 : (0 : Int) ≤ (q : Int) := by omega
                  have hq1 : (q : Int) < (len : Int) := by omega
                  have hq2 : (0 : Int) ≤ (q : Int) + 1 := by omega
                  have hq3 : (q : Int) + 1 < (len : Int) := by omega
                  have hn1 : ((q : Int) + 1).toNat = q + 1 := by omega
                  have HSX := Lib.hid (fun (h : l[q] < l[q + 1]) => show ∀ i (h : i + 1 < l.length), i < q + 1 → l[i] < l[i + 1] from fun i hi h' => by
                    by_cases e : i = q
                    · subst e; exact h
                    · exact HIN.out i hi (by omega))
                  have HSY := Lib.hid (fun (h : ¬ l[q] < l[q + 1]) => show R = false by
                    rw [HRx.out]
                    cases ha : ascL l with
                    | false => rfl
                    | true => exact absurd (ascL_adj.1 ha q hjl) h)
                  generalize l[q] = x at *
                  generalize l[q + 1] = y at *
                  by_cases hxy : x < y
                  · have g7 : decide (y ≤ x) = false := by simp; omega
                    have HS1 := Lib.hid (HSX.out hxy)
                    clear hxy
                    go_wp2_with fail
                    go_quiet (fail)
                    go_wp2
                    exact ⟨⟨q + 1, by go_num, by omega, HS1.out, Ext.drewN' HER2.out⟩, by simp [intOf]; omega⟩
                  · have g7 : decide (y ≤ x) = true := by simp; omega
                    have HS1 := Lib.hid (HSY.out hxy)
                    clear hxy
                    go_wp2_with fail
                    go_quiet (fail)
                    go_wp2
                    go_ret
                    exact ⟨by rw [HS1.out]; rfl, Ext.drewN' HER.out⟩
                · have hge : ¬ ((q : Int) + 1 < (len : Int)) := by omega
                  have HRy := Lib.hid (show R = true by rw [HRx.out, ascL_adj]; exact fun i h => HIN.out i h (by rw [HL.out] at h; omega))
                  go_wp2
                  go_ret
                  exact ⟨by rw [HRy.out]; rfl, HER.out⟩
end Go.Proofs.YtmbkjccckmlacaaDoor

namespace Go.Proofs.YtmbkjccckmlacaaDoor
open Go.RowKit
set_option linter.unusedVariables false
set_option linter.unusedSimpArgs false

/-- what Apply returns -/
def apR (k z : Int) (l : List Int) (m a : Int) : List Int × Int × Int := if mdE k z ≠ 0 then ([], 0, mdE k z) else if stR k z l = false then ([], 0, 1) else apM k z l m a
theorem st_len {k z : Int} {l : List Int} (h : stR k z l = true) : l.length ≤ 100 := by
  unfold stR at h
  simp only [Bool.and_eq_true] at h
  obtain ⟨-, h⟩ := h
  split at h
  · have := of_decide_eq_true h; omega
  · split at h
    · rcases of_decide_eq_true h with rfl | rfl <;> simp
    · simp only [Bool.and_eq_true, decide_eq_true_eq] at h
      exact h.1.1
theorem insM_len (z : Int) (l : List Int) (i : Nat) (x : Int) : (insM z l i x).1.length ≤ l.length + 1 := by
  unfold insM
  by_cases h1 : 0 < z ∧ z ≤ l.length
  · rw [if_pos h1]; dsimp only; omega
  · rw [if_neg h1]
    by_cases h2 : 100 ≤ l.length
    · rw [if_pos h2]; simp
    · rw [if_neg h2]; simp only [List.length_append, List.length_take, List.length_cons, List.length_drop]; omega
theorem erase_len (l : List Int) (i : Nat) : (l.eraseIdx i).length ≤ l.length + 1 := by
  rw [List.length_eraseIdx]
  split <;> omega
theorem remM_len (l : List Int) (i : Nat) : (remM l i).1.length ≤ l.length + 1 := by
  unfold remM
  by_cases h1 : l = []
  · rw [if_pos h1]; dsimp only; omega
  · rw [if_neg h1]; exact erase_len l i
theorem len_ite {c : Prop} [Decidable c] {x y : List Int × Int × Int} {n : Nat} (hx : x.1.length ≤ n) (hy : y.1.length ≤ n) : (if c then x else y).1.length ≤ n := by
  by_cases h : c
  · rw [if_pos h]; exact hx
  · rw [if_neg h]; exact hy
theorem apM_len (k z : Int) (l : List Int) (m a : Int) : (apM k z l m a).1.length ≤ l.length + 1 := by
  have h1 : ∀ (x : Int) (y z : Int), (([x], y, z) : List Int × Int × Int).1.length ≤ l.length + 1 := fun x y z => by simp
  have h0 : ∀ (y z : Int), (([], y, z) : List Int × Int × Int).1.length ≤ l.length + 1 := fun y z => by simp
  have hl : ∀ (y z : Int), ((l, y, z) : List Int × Int × Int).1.length ≤ l.length + 1 := fun y z => Nat.le_succ _
  unfold apM
  refine len_ite (h0 _ _) (len_ite (h0 _ _) (len_ite (len_ite (hl _ _) (h1 _ _ _)) (len_ite (len_ite (hl _ _) (len_ite (h1 _ _ _) (h0 _ _))) (len_ite (len_ite (insM_len _ _ _ _) (remM_len _ _)) (len_ite (len_ite (insM_len _ _ _ _) (remM_len _ _)) (len_ite (len_ite (len_ite (hl _ _) (insM_len _ _ _ _)) (len_ite (len_ite (erase_len _ _) (hl _ _)) (hl _ _))) (len_ite (len_ite (h1 _ _ _) (h0 _ _)) (len_ite (h1 _ _ _) (h0 _ _)))))))))
/-- a row of the call's own, a number, an error -/
def AyP (w : World) (R : List Int × Int × Int) (e : Ending) (w' : World) : Prop := ∃ v, e = .returned (.tuple #[v, .int .i64 R.2.1, .int .i64 R.2.2]) ∧ RowI w.heap.size v R.1 w' ∧ Ext w w'
set_option maxRecDepth 100000 in
set_option maxHeartbeats 4000000 in
theorem Apply_any (k z : Int) (l : List Int) (m arg : Int) (a : Option Addr) (c : Nat) (w : World) (hl : l.length ≤ maxLen) (hA : IntsAt w a l) (hc : l.length ≤ c) :
    Calls Tryd.prog 23 #[.agg #[.int .i64 k, .int .i64 z], .slice a l.length c, .int .i64 m, .int .i64 arg] w (AyP w (apR k z l m arg)) := by
  have HX := Lib.hid (ext_allocN w (.cells #[.int .i64 k, .int .i64 z] 23))
  have HMD := Lib.hid (mdCells w k z)
  have KM := Lib.hid (fun W => checkModel_any k z W)
  have KI := Lib.hid (fun W (hW : Ext w W) (h1 : 1 ≤ k) (h6 : k ≤ 6) => isState_any k z l a c W h1 h6 hl (hA.ext hW))
  have KP := Lib.hid (fun W (hW : Ext w W) (h1 : 1 ≤ k) (h6 : k ≤ 6) (hs : stR k z l = true) => apply_any k z l m arg a c W h1 h6 hs (hA.ext hW) hc)
  have HLN := Lib.hid (fun (hs : stR k z l = true) => show (apM k z l m arg).1.length ≤ 1000000000 from by have := apM_len k z l m arg; have := st_len hs; omega)
  have HR := Lib.hid (show apR k z l m arg = if mdE k z ≠ 0 then ([], 0, mdE k z) else if stR k z l = false then ([], 0, 1) else apM k z l m arg from rfl)
  have HMK := Lib.hid (fun (h : mdE k z = 0) => mdE_k h)
  generalize apR k z l m arg = R at *
  generalize apM k z l m arg = Z at *
  generalize l.length = len at *
  unfold maxLen at hl
  unfold AyP
  clear hA
  obtain ⟨wk, hwk⟩ : ∃ W, W = w.alloc (.cells #[.int .i64 k, .int .i64 z] 23) := ⟨_, rfl⟩
  have hwk' := hwk.symm
  rw [hwk'] at HX HMD
  clear hwk
  obtain ⟨m0, m1⟩ := HMD.out wk (Below.refl _ _)
  by_cases hm : mdE k z = 0
  · obtain ⟨hk1, hk6⟩ := HMK.out hm
    rw [hm] at KM HR
    cases hs : stR k z l with
    | false =>
      rw [hs] at KI HR
      have HRv := Lib.hid (show R = ([], 0, 1) by rw [HR.out]; rfl)
      clear HR KP HLN hm hs
      go_enter Tryd.func23, Tryd.ntmps23
      go_wp2_with fail
      try rw [hwk']
      refine (KM.out _).mono ?_
      intro w2 hE2
      have HX2 := Lib.hid hE2
      have HE2 := Lib.hid (Ext.trans HX.out hE2)
      clear hE2 m0 m1
      obtain ⟨m0, m1⟩ := HMD.out w2 HX2.out
      go_wp2_with fail
      refine (KI.out _ HE2.out hk1 hk6).mono ?_
      intro w3 hE3
      have HE3 := Lib.hid (Ext.trans HE2.out hE3)
      clear hE3 m0 m1
      go_wp2
      go_ret3
      obtain rfl := HRv.out
      exact ⟨_, rfl, RowI.nil _ _, HE3.out⟩
    | true =>
      rw [hs] at KI
      have HRv := Lib.hid (show R = Z by rw [HR.out, if_neg (by simp), if_neg (by rw [hs]; simp)])
      have HP := Lib.hid (fun W (hW : Ext w W) => KP.out W hW hk1 hk6 hs)
      have HZL := Lib.hid (HLN.out hs)
      have HKI := Lib.hid (fun W (hW : Ext w W) => KI.out W hW hk1 hk6)
      clear HR KP HLN hm hs KI
      obtain ⟨Z1, rs, er⟩ := Z
      unfold ApP at HP
      dsimp only at HP HZL
      go_enter Tryd.func23, Tryd.ntmps23
      go_wp2_with fail
      try rw [hwk']
      refine (KM.out _).mono ?_
      intro w2 hE2
      have HX2 := Lib.hid hE2
      have HE2 := Lib.hid (Ext.trans HX.out hE2)
      clear hE2 m0 m1
      obtain ⟨m0, m1⟩ := HMD.out w2 HX2.out
      go_wp2_with fail
      refine (HKI.out _ HE2.out).mono ?_
      intro w3 hE3
      have HX3 := Lib.hid (Ext.trans HX2.out hE3)
      have HE3 := Lib.hid (Ext.trans HE2.out hE3)
      clear hE3 m0 m1
      obtain ⟨m0, m1⟩ := HMD.out w3 HX3.out
      go_wp2_with fail
      refine (HP.out _ HE3.out).mono ?_
      rintro e w4 ⟨a4, c4, rfl, hI4, hc4, hE4, hF4⟩
      have HE4 := Lib.hid (Ext.trans HE3.out hE4)
      have KL := Lib.hid (CloneI_row Z1 a4 c4 w4 HZL.out hI4)
      generalize Z1.length = lz at *
      clear hE4 hI4 hc4 hF4 m0 m1
      go_wp2_with fail
      refine KL.out.mono ?_
      rintro e w5 ⟨v5, rfl, hr5, hE5⟩
      have HRW := Lib.hid (hr5.le HE4.out.size)
      have HE5 := Lib.hid (Ext.trans HE4.out hE5)
      clear hr5 hE5
      go_wp2
      go_ret3
      obtain rfl := HRv.out
      exact ⟨_, rfl, HRW.out, HE5.out⟩
  · have HRv := Lib.hid (show R = ([], 0, mdE k z) by rw [HR.out, if_pos hm])
    have g1 : (mdE k z != 0) = true := by rw [bne_iff_ne]; exact hm
    clear HR KP HLN hm KI HMK
    generalize mdE k z = E at *
    go_enter Tryd.func23, Tryd.ntmps23
    go_wp2_with fail
    try rw [hwk']
    refine (KM.out _).mono ?_
    intro w2 hE2
    have HE2 := Lib.hid (Ext.trans HX.out hE2)
    clear hE2 m0 m1
    go_wp2
    go_ret3
    obtain rfl := HRv.out
    exact ⟨_, rfl, RowI.nil _ _, HE2.out⟩
end Go.Proofs.YtmbkjccckmlacaaDoor

namespace Go.Proofs.YtmbkjccckmlacaaDoor
open Go.RowKit
set_option linter.unusedVariables false
set_option linter.unusedSimpArgs false

theorem take_mem {l : List Int} {j : Nat} {x : Int} (h : j < l.length) : (x ∈ l.take (j + 1)) ↔ (x ∈ l.take j ∨ l[j] = x) := by
  rw [List.take_succ_eq_append_getElem h, List.mem_append, List.mem_singleton]
  exact or_congr Iff.rfl ⟨fun e => e.symm, fun e => e.symm⟩
set_option maxHeartbeats 1000000 in
theorem index_any (l : List Int) (x : Int) (a : Option Addr) (cap : Nat) (w : World) (hl : l.length ≤ 1000000) (h : IntsAt w a l) :
    Calls Tryd.prog 58 #[.slice a l.length cap, .int .i64 x] w fun e w' => (∃ r : Int, e = .returned (.int .i64 r) ∧ decide (0 ≤ r) = decide (x ∈ l)) ∧ Below w.heap.size w w' := by
  obtain ⟨n, hn⟩ : ∃ n, l.length = n := ⟨_, rfl⟩
  have HN := Lib.hid hn
  rw [hn] at hl ⊢
  clear hn
  go_enter Tryd.func58, Tryd.ntmps58
  go_wp2
  go_loopw [8] (fun i wr => ∃ j : Nat, j ≤ n ∧ i = .int .i64 j ∧ x ∉ l.take j ∧ Below w.heap.size w wr) (fun i _ => n - (intOf i).toNat)
  case atStart => exact ⟨0, Nat.zero_le _, rfl, by simp, Below.refl _ _⟩
  case round =>
    obtain ⟨j, hj, rfl, hA, hB⟩ := hrel
    have HA := Lib.hid hA
    have HB := Lib.hid hB
    clear hA hB
    by_cases hlt : j < n
    · have hjl : j < l.length := by rw [HN.out]; exact hlt
      obtain ⟨b, off, rfl, hc⟩ := (h.below HB.out).at hjl
      have HT := Lib.hid (take_mem (x := x) hjl)
      have HM := Lib.hid (show l[j] ∈ l from List.getElem_mem hjl)
      have hi0 : (0 : Int) ≤ (j : Int) := by omega
      have hi1 : (j : Int) < (n : Int) := by omega
      generalize l[j] = y at *
      by_cases hxy : x = y
      · have g1 : (x == y) = true := by simpa using hxy
        have HV := Lib.hid (show decide (x ∈ l) = true by rw [hxy]; exact decide_eq_true HM.out)
        clear hxy
        go_wp2
        go_ret
        exact ⟨⟨_, rfl, by rw [HV.out]; simp⟩, HB.out⟩
      · have g1 : (x == y) = false := by simpa using hxy
        have HV := Lib.hid (show x ∉ l.take (j + 1) from fun h => by
          rcases HT.out.1 h with h | h
          · exact HA.out h
          · exact hxy h.symm)
        clear hxy
        go_wp2
        exact ⟨⟨j + 1, by omega, by go_num, HV.out, HB.out⟩, by simp [intOf]; omega⟩
    · have hk : l.take j = l := List.take_of_length_le (by rw [HN.out]; omega)
      have HV := Lib.hid (show decide (x ∈ l) = false by rw [decide_eq_false_iff_not, ← hk]; exact HA.out)
      clear hk
      go_wp2
      go_ret
      exact ⟨⟨_, rfl, by rw [HV.out]; rfl⟩, HB.out⟩
theorem contains_any (l : List Int) (x : Int) (a : Option Addr) (cap : Nat) (w : World) (hl : l.length ≤ 1000000) (h : IntsAt w a l) :
    Gives Tryd.prog 27 #[.slice a l.length cap, .int .i64 x] w (.bool (decide (x ∈ l))) := by
  unfold Gives
  have C := Lib.hid (index_any l x a cap w hl h)
  generalize decide (x ∈ l) = b at *
  generalize l.length = n at *
  clear h
  go_enter Tryd.func27, Tryd.ntmps27
  go_wp2_with fail
  refine C.out.mono ?_
  rintro e w2 ⟨⟨r, rfl, hr⟩, hB2⟩
  go_wp2
  go_ret
  exact ⟨rfl, hB2⟩
end Go.Proofs.YtmbkjccckmlacaaDoor

namespace Go.Proofs.YtmbkjccckmlacaaDoor
open Go.RowKit
set_option linter.unusedVariables false
set_option linter.unusedSimpArgs false

theorem grH_leF {n : Nat} (h : grH n = false) : n ≤ 40 := by
  unfold grH at h
  simp at h
  omega
theorem cot_one {k z : Int} {l : List Cl} : cotR k z l 1 = (if (srhR k z l).2.1 = true then 1 else 0, (srhR k z l).2.2) := by
  rw [srh_e]
  unfold cotR
  by_cases h : srE k z l = 0
  · rw [if_neg (by simpa using h), if_neg (by omega), h]
    have e : (srhR k z l).2.1 = true ↔ 0 < cnt k z l (beg0 k) := by rw [srh_iff]; exact ⟨fun g => g.2, fun g => ⟨h, g⟩⟩
    by_cases hc : 0 < cnt k z l (beg0 k)
    · rw [if_pos (e.2 hc)]; congr 1; omega
    · rw [if_neg (fun g => hc (e.1 g))]; congr 1; omega
  · rw [if_pos h]
    have : ¬ (srhR k z l).2.1 = true := fun g => h (srh_iff.1 g).1
    rw [if_neg this]
theorem srh_no {k z : Int} {l : List Cl} (h : (srhR k z l).2.1 = false) : (srhR k z l).1 = [] := by
  unfold srhR at h ⊢
  split
  · rfl
  · next he =>
    rw [if_neg he] at h
    unfold serR at h ⊢
    split
    · rfl
    · next hc => rw [if_neg hc] at h; simp at h
theorem ser_len {k z : Int} {l : List Cl} : ∀ (f : Nat) (n : Nd), (serF k z l f n).length ≤ lft l n
  | 0, n => by simp [serF]
  | f + 1, n => by
    rw [serF]
    split
    · simp
    · split
      · next p hp =>
        have hx := (mem_nxs.1 (List.mem_of_find?_eq_some hp)).2
        have := ser_len (k := k) (z := z) (l := l) f p.2
        have := nxt_lft hx
        simp only [List.length_cons]; omega
      · simp
theorem srh_len {k z : Int} {l : List Cl} : (srhR k z l).1.length ≤ l.length := by
  unfold srhR
  split
  · simp
  · unfold serR
    split
    · simp
    · exact Nat.le_trans (ser_len _ _) (lft_le l _)
theorem IntsAt.take {w : World} {a : Option Addr} {l : List Int} (h : IntsAt w a l) (k : Nat) : IntsAt w a (l.take k) := fun i hi => by
  obtain ⟨b, off, e, hc⟩ := h i (by rw [List.length_take] at hi; omega)
  exact ⟨b, off, e, by rw [List.getElem_take]; exact hc⟩
set_option maxRecDepth 100000 in
set_option maxHeartbeats 4000000 in
theorem linearizeFinds_walk (k z : Int) (l : List Cl) (a : Option Addr) (c : Nat) (o : Option Addr) (lo co : Nat) (zs : List Int) (w : World) (hO : OpIn w a c l) (hZ : IsRow .i64 w o lo co zs) (hT : TabW w) :
    Gives Tryd.prog 7 #[.agg #[.int .i64 k, .int .i64 z], .slice a l.length c, .slice o lo co] w (.bool true) := by
  obtain ⟨hHs, hlc, hlm, -⟩ := hO
  obtain ⟨order, hol, hom, hoI, -⟩ := hZ.ints
  clear hZ
  unfold Gives
  have KA := Lib.hid (fun W (hW : Ext w W) => awake_any W (hT.below hW.below))
  have HX1 := Lib.hid (ext_allocN w (.cells #[.int .i64 k, .int .i64 z] 23))
  have HMD := Lib.hid (mdCells w k z)
  have KS := Lib.hid (fun W (hW : Ext w W) => Search_any k z l a c W (hHs.ext hW) hlm (hT.below hW.below))
  have KC := Lib.hid (fun W (hW : Ext w W) => Count_any k z l 1 a c W (hHs.ext hW) hlm (hT.below hW.below))
  have KG := Lib.hid (fun W => great_any l.length a c W)
  cases hg : grH l.length with
  | true =>
    rw [hg] at KG
    clear hlc hlm hHs hT KC KS hol hom hoI
    generalize l.length = len at *
    go_enter Tryd.func7, Tryd.ntmps7
    go_wp2_with fail
    refine (KG.out _).mono ?_
    intro w2 hE2
    have HE2 := Lib.hid (Ext.trans HX1.out hE2)
    clear hE2
    go_wp2_with fail
    refine (KA.out _ HE2.out).mono ?_
    intro w3 hE3
    have HE3 := Lib.hid (Ext.trans HE2.out hE3)
    clear hE3
    go_wp2
    go_ret
    exact ⟨rfl, HE3.out⟩
  | false =>
    have hl := grH_leF hg
    rw [hg] at KG
    by_cases h20 : 20 < lo
    · have d20 : decide ((20 : Int) < (lo : Int)) = true := by simp; omega
      clear hlc hlm hHs hT KC KS hol hoI h20
      unfold maxLen at hom
      generalize l.length = len at *
      go_enter Tryd.func7, Tryd.ntmps7
      go_wp2_with fail
      refine (KG.out _).mono ?_
      intro w2 hE2
      have HE2 := Lib.hid (Ext.trans HX1.out hE2)
      clear hE2
      go_wp2_with fail
      refine (KA.out _ HE2.out).mono ?_
      intro w3 hE3
      have HE3 := Lib.hid (Ext.trans HE2.out hE3)
      clear hE3
      go_wp2
      go_ret
      exact ⟨rfl, HE3.out⟩
    · have d20 : decide ((20 : Int) < (lo : Int)) = false := by simp; omega
      have KV := Lib.hid (fun W (hW : Ext w W) => show Gives Tryd.prog 21 #[.agg #[.int .i64 k, .int .i64 z], .slice a l.length c, .slice o lo co] W (.int .i64 (verR k z l order)) from by
        rw [← hol]; exact Verify_any k z l order a o c co W (hHs.ext hW) hlm (hoI.ext hW) (by omega))
      have KV2 := Lib.hid (fun W (hW : Ext w W) (m : List Int) (x : Option Addr) (cc : Nat) (hm : IntsAt W x m) (hml : m.length ≤ 1000) => Verify_any k z l m a x c cc W (hHs.ext hW) hlm hm hml)
      have HB := Lib.hid (fun (h : (srhR k z l).2.2 ≠ 0) => show verR k z l order = (srhR k z l).2.2 from by rw [srh_e] at h ⊢; exact ver_bad h order)
      have HFN := Lib.hid (fun (h : (srhR k z l).2.1 = false) => find_no h order)
      have HFV := Lib.hid (fun (h : (srhR k z l).2.1 = true) => find_ver h)
      have HNo := Lib.hid (fun (h : (srhR k z l).2.1 = false) => srh_no h)
      have HSL := Lib.hid (srh_len (k := k) (z := z) (l := l))
      have HIS := Lib.hid (fun (h : (srhR k z l).2.2 ≠ 0) => show (srhR k z l).2.1 = false from by
        rw [srh_e] at h
        cases hc : (srhR k z l).2.1 with
        | false => rfl
        | true => exact absurd (srh_iff.1 hc).1 h)
      rw [cot_one] at KC
      have HL40 := Lib.hid hl
      unfold maxLen at hom
      clear hlc hlm hHs hT hoI h20 hg hl
      generalize srhR k z l = S at *
      obtain ⟨s1, is, er⟩ := S
      unfold ShP at KS
      dsimp only at *
      generalize verR k z l order = vo at *
      obtain ⟨len, hlen⟩ : ∃ n, l.length = n := ⟨_, rfl⟩
      rw [hlen] at KS KC KG KV KV2 HL40 HSL ⊢
      clear hlen
      by_cases he : er = 0
      · subst he
        cases is with
        | false =>
          obtain rfl := HNo.out rfl
          have g5 : (vo != 0) = true := by rw [bne_iff_ne]; exact HFN.out rfl
          rw [if_neg (by simp)] at KC
          clear HB HFN HFV HNo HSL HIS KV2
          go_enter Tryd.func7, Tryd.ntmps7
          go_wp2_with fail
          refine (KG.out _).mono ?_
          intro w2 hE2
          obtain ⟨m0, m1⟩ := HMD.out w2 hE2
          have HX2 := Lib.hid hE2
          have HE2 := Lib.hid (Ext.trans HX1.out hE2)
          clear hE2
          go_wp2_with fail
          refine (KS.out _ HE2.out).mono ?_
          rintro e w3 ⟨v, rfl, hr, hE3⟩
          have HX3 := Lib.hid (Ext.trans HX2.out hE3)
          have HE3 := Lib.hid (Ext.trans HE2.out hE3)
          obtain ⟨x3, c3, rfl, -, -, -⟩ := hr.look
          clear hE3 hr m0 m1
          obtain ⟨m0, m1⟩ := HMD.out w3 HX3.out
          go_wp2_with fail
          refine (KC.out _ HE3.out).mono ?_
          intro w4 hE4
          have HX4 := Lib.hid (Ext.trans HX3.out hE4)
          have HE4 := Lib.hid (Ext.trans HE3.out hE4)
          clear hE4 m0 m1
          obtain ⟨m0, m1⟩ := HMD.out w4 HX4.out
          go_wp2_with fail
          refine (KV.out _ HE4.out).mono ?_
          intro w5 hE5
          have HE5 := Lib.hid (Ext.trans HE4.out hE5)
          clear hE5 m0 m1
          go_wp2_with fail
          refine (KA.out _ HE5.out).mono ?_
          intro w6 hE6
          have HE6 := Lib.hid (Ext.trans HE5.out hE6)
          clear hE6
          go_wp2
          go_ret
          exact ⟨rfl, HE6.out⟩
        | true =>
          obtain ⟨hv1, hv2⟩ := HFV.out rfl
          have HV1 := Lib.hid hv1
          have HV2 := Lib.hid hv2
          rw [if_pos rfl] at KC
          clear HB HFN HFV HNo HIS hv1 hv2 KV
          go_enter Tryd.func7, Tryd.ntmps7
          go_wp2_with fail
          refine (KG.out _).mono ?_
          intro w2 hE2
          obtain ⟨m0, m1⟩ := HMD.out w2 hE2
          have HX2 := Lib.hid hE2
          have HE2 := Lib.hid (Ext.trans HX1.out hE2)
          clear hE2
          go_wp2_with fail
          refine (KS.out _ HE2.out).mono ?_
          rintro e w3 ⟨v, rfl, hr, hE3⟩
          have HX3 := Lib.hid (Ext.trans HX2.out hE3)
          have HE3 := Lib.hid (Ext.trans HE2.out hE3)
          obtain ⟨x3, c3, rfl, hi3, hc3, -⟩ := hr.look
          have HI3 := Lib.hid hi3
          have HSL2 := Lib.hid (show (s1.map Int.ofNat).length ≤ 40 by rw [List.length_map]; exact Nat.le_trans HSL.out HL40.out)
          have HV2m := Lib.hid (fun j (hj : j < (s1.map Int.ofNat).length) => HV2.out j (by rw [List.length_map] at hj; exact hj))
          clear hE3 hr m0 m1 hi3 HV2 HSL
          generalize s1.map Int.ofNat = m at *
          obtain ⟨lm, hlm⟩ : ∃ n, m.length = n := ⟨_, rfl⟩
          rw [hlm] at hc3 ⊢
          have HLM := Lib.hid hlm
          have hlm40 : lm ≤ 40 := by rw [← HLM.out]; exact HSL2.out
          clear hlm
          obtain ⟨m0, m1⟩ := HMD.out w3 HX3.out
          go_wp2_with fail
          refine (KC.out _ HE3.out).mono ?_
          intro w4 hE4
          have HX4 := Lib.hid (Ext.trans HX3.out hE4)
          have HE34 := Lib.hid hE4
          have HE4 := Lib.hid (Ext.trans HE3.out hE4)
          clear hE4 m0 m1
          have HC3 := Lib.hid hc3
          go_wp2_with fail
          go_loopw [84] (fun i wr => ∃ j : Nat, j ≤ lm ∧ i = .int .i64 (j : Int) ∧ Ext w4 wr) (fun i _ => lm - (intOf i).toNat)
          case atStart => exact ⟨0, Nat.zero_le _, rfl, Below.refl _ _⟩
          case round =>
            obtain ⟨j, hj, rfl, hEr⟩ := hrel
            have HER := Lib.hid hEr
            clear hEr
            by_cases hlt : j < lm
            · have hjc : (j : Int) ≤ (c3 : Int) := by have := HC3.out; omega
              have hj0 : (0 : Int) ≤ (j : Int) := by omega
              have hjc2 : j ≤ c3 := by omega
              have htl : (m.take j).length = j := by rw [List.length_take, HLM.out]; omega
              have HVJ := Lib.hid (fun W (hW : Ext wr W) => show Gives Tryd.prog 21 #[.agg #[.int .i64 k, .int .i64 z], .slice a len c, .slice x3 j c3] W (.int .i64 (verR k z l (m.take j))) from by
                have := KV2.out W (Ext.trans HE4.out (Ext.trans HER.out hW)) (m.take j) x3 c3 ((HI3.out.ext (Ext.trans HE34.out (Ext.trans HER.out hW))).take j) (by omega)
                rw [htl] at this
                exact this)
              have g6 : (verR k z l (m.take j) == 0) = false := by simpa using HV2m.out j (by rw [HLM.out]; exact hlt)
              obtain ⟨m0, m1⟩ := HMD.out wr (Ext.trans HX4.out HER.out)
              clear htl
              generalize verR k z l (m.take j) = vj at *
              go_wp2_with fail
              go_still_tail 5, (by kernel_rfl)
              go_wp2_with fail
              have HEd := Lib.hid (show Ext wr wr.drew from Ext.drewN' (n := 1) (Below.refl _ _))
              refine (HVJ.out _ HEd.out).mono ?_
              intro w5 hE5
              have HE5 := Lib.hid (Ext.trans HER.out (Ext.trans HEd.out hE5))
              clear hE5 m0 m1
              go_wp2
              exact ⟨⟨j + 1, by omega, by go_num, HE5.out⟩, by simp [intOf]; omega⟩
            · have hjl : lm = j := by omega
              subst hjl
              have HEw := Lib.hid (Ext.trans HE4.out HER.out)
              have KV3 := Lib.hid (fun W (hW : Ext wr W) => show Gives Tryd.prog 21 #[.agg #[.int .i64 k, .int .i64 z], .slice a len c, .slice x3 lm c3] W (.int .i64 0) from by
                have := KV2.out W (Ext.trans HEw.out hW) m x3 c3 (HI3.out.ext (Ext.trans HE34.out (Ext.trans HER.out hW))) (by rw [HLM.out]; omega)
                rw [HLM.out, HV1.out] at this
                exact this)
              obtain ⟨m0, m1⟩ := HMD.out wr (Ext.trans HX4.out HER.out)
              go_wp2_with fail
              refine (KV3.out _ (Below.refl _ _)).mono ?_
              intro w5 hE5
              have HE5 := Lib.hid (Ext.trans HEw.out hE5)
              clear hE5 m0 m1
              go_wp2_with fail
              refine (KA.out _ HE5.out).mono ?_
              intro w6 hE6
              have HE6 := Lib.hid (Ext.trans HE5.out hE6)
              clear hE6
              go_wp2
              go_ret
              exact ⟨rfl, HE6.out⟩
      · have g1 : (er != 0) = true := by rw [bne_iff_ne]; exact he
        obtain rfl := HIS.out he
        obtain rfl := HNo.out rfl
        obtain rfl := (HB.out he)
        rw [if_neg (by simp)] at KC
        clear HB HFN HFV HNo HIS KV2 he
        go_enter Tryd.func7, Tryd.ntmps7
        go_wp2_with fail
        refine (KG.out _).mono ?_
        intro w2 hE2
        obtain ⟨m0, m1⟩ := HMD.out w2 hE2
        have HX2 := Lib.hid hE2
        have HE2 := Lib.hid (Ext.trans HX1.out hE2)
        clear hE2
        go_wp2_with fail
        refine (KS.out _ HE2.out).mono ?_
        rintro e w3 ⟨v, rfl, hr, hE3⟩
        have HX3 := Lib.hid (Ext.trans HX2.out hE3)
        have HE3 := Lib.hid (Ext.trans HE2.out hE3)
        obtain ⟨x3, c3, rfl, -, -, -⟩ := hr.look
        clear hE3 hr m0 m1
        obtain ⟨m0, m1⟩ := HMD.out w3 HX3.out
        go_wp2_with fail
        refine (KC.out _ HE3.out).mono ?_
        intro w4 hE4
        have HX4 := Lib.hid (Ext.trans HX3.out hE4)
        have HE4 := Lib.hid (Ext.trans HE3.out hE4)
        clear hE4 m0 m1
        obtain ⟨m0, m1⟩ := HMD.out w4 HX4.out
        go_wp2_with fail
        refine (KV.out _ HE4.out).mono ?_
        intro w5 hE5
        have HE5 := Lib.hid (Ext.trans HE4.out hE5)
        clear hE5 m0 m1
        go_wp2_with fail
        refine (KA.out _ HE5.out).mono ?_
        intro w6 hE6
        have HE6 := Lib.hid (Ext.trans HE5.out hE6)
        clear hE6
        go_wp2
        go_ret
        exact ⟨rfl, HE6.out⟩
end Go.Proofs.YtmbkjccckmlacaaDoor

namespace Go.Proofs.YtmbkjccckmlacaaDoor
open Go.RowKit
set_option linter.unusedVariables false
set_option linter.unusedSimpArgs false

/-- does a pair name x as the later call, and an earlier one that is not among the first i -/
def exB (x : Int) (part : List Int) (i : Nat) (b0 b1 : Int) : Bool := decide (b1 = x) && !decide (b0 ∈ part.take i)
/-- what the closure captures -/
structure ExC (w : World) (pX pP pI : Nat) (x : Int) (part : List Int) (i : Nat) (a : Option Addr) (cap : Nat) : Prop where
  cx : w.cell? ⟨pX, 0, none⟩ = some (.int .i64 x)
  cp : w.cell? ⟨pP, 0, none⟩ = some (.slice a part.length cap)
  ci : w.cell? ⟨pI, 0, none⟩ = some (.int .i64 (i : Int))
  le : i ≤ part.length
  lc : part.length ≤ cap
  lm : part.length ≤ 1000
  ia : IntsAt w a part
theorem ExC.ext {w W : World} {pX pP pI : Nat} {x : Int} {part : List Int} {i : Nat} {a : Option Addr} {cap : Nat} (h : ExC w pX pP pI x part i a cap) (hE : Ext w W) : ExC W pX pP pI x part i a cap :=
  have k : ∀ {a : Addr} {v : Value}, w.cell? a = some v → W.cell? a = some v := fun hc => (hE.below.cell (cell_lt hc)).trans hc
  ⟨k h.cx, k h.cp, k h.ci, h.le, h.lc, h.lm, h.ia.ext hE⟩
set_option maxRecDepth 100000 in
set_option maxHeartbeats 2000000 in
theorem xpl1_any {w : World} {pX pP pI : Nat} {x : Int} {part : List Int} {i : Nat} {a : Option Addr} {cap : Nat} (h : ExC w pX pP pI x part i a cap) (b0 b1 : Int) :
    Gives Tryd.prog 30 #[.agg #[.int .i64 b0, .int .i64 b1], .pointer (some ⟨pX, 0, none⟩), .pointer (some ⟨pP, 0, none⟩), .pointer (some ⟨pI, 0, none⟩)] w (.bool (exB x part i b0 b1)) := by
  unfold Gives
  have HR := Lib.hid (show exB x part i b0 b1 = (decide (b1 = x) && !decide (b0 ∈ part.take i)) from rfl)
  generalize exB x part i b0 b1 = R at *
  obtain ⟨wk, hwk⟩ : ∃ W, W = w.alloc (.cells #[.int .i64 b0, .int .i64 b1] tEd) := ⟨_, rfl⟩
  have HX := Lib.hid (show Ext w wk by rw [hwk]; exact ext_allocN _ _)
  have HB := Lib.hid (show wk.heap[w.heap.size]? = some (.cells #[.int .i64 b0, .int .i64 b1] tEd (0, 0)) by rw [hwk]; exact alloc_here _ _)
  have hwk' := hwk.symm
  clear hwk
  have h1 := h.ext HX.out
  have x0 := cell_of (i := 0) HB.out rfl
  have x1 := cell_of (i := 1) HB.out rfl
  have y0 := h1.cx
  have y1 := h1.cp
  have y2 := h1.ci
  have htl : (part.take i).length = i := by rw [List.length_take]; have := h.le; omega
  have KC := Lib.hid (fun W (hW : Ext wk W) => show Gives Tryd.prog 27 #[.slice a i cap, .int .i64 b0] W (.bool (decide (b0 ∈ part.take i))) from by
    have := contains_any (part.take i) b0 a cap W (by rw [htl]; have := h.le; have := h.lm; omega) ((h1.ia.ext hW).take i)
    rw [htl] at this
    exact this)
  have hi0 : (0 : Int) ≤ (i : Int) := by omega
  have hi1 : (i : Int) ≤ (cap : Int) := by have := h.le; have := h.lc; omega
  generalize decide (b0 ∈ part.take i) = bb at *
  clear htl h h1
  generalize part.length = lp at *
  by_cases hx : b1 = x
  · have g1 : (b1 == x) = true := by simpa using hx
    have HRv := Lib.hid (show R = !bb by rw [HR.out, decide_eq_true hx]; rfl)
    clear hx HR
    go_enter Tryd.func30, Tryd.ntmps30
    go_wp2_with fail
    try rw [hwk']
    go_still_tail 10, (by kernel_rfl)
    go_wp2_with fail
    refine (KC.out _ (Ext.drewN' (n := 1) (Below.refl _ _))).mono ?_
    intro w2 hE2
    have HE2 := Lib.hid (Ext.trans HX.out (Ext.trans (show Ext wk wk.drew from Ext.drewN' (n := 1) (Below.refl _ _)) hE2))
    clear hE2
    go_wp2
    go_ret
    exact ⟨by rw [HRv.out]; rfl, HE2.out⟩
  · have g1 : (b1 == x) = false := by simpa using hx
    have HRv := Lib.hid (show R = false by rw [HR.out, decide_eq_false hx]; rfl)
    clear hx HR
    go_enter Tryd.func30, Tryd.ntmps30
    go_wp2_with fail
    try rw [hwk']
    go_still_tail 10, (by kernel_rfl)
    go_wp2
    go_ret
    exact ⟨by rw [HRv.out]; rfl, Ext.drewN' (n := 1) HX.out⟩
def exQ (x : Int) (part : List Int) (i : Nat) (p : Int × Int) : Bool := exB x part i p.1 p.2
theorem any_take {α : Type} {f : α → Bool} {l : List α} {j : Nat} (h : j < l.length) : (l.take (j + 1)).any f = ((l.take j).any f || f l[j]) := by
  rw [List.take_succ_eq_append_getElem h, List.any_append]; simp
set_option maxRecDepth 100000 in
set_option maxHeartbeats 2000000 in
theorem indexEx_any (L : List (Int × Int)) (c : Option Addr) (cc : Nat) {w : World} {pX pP pI : Nat} {x : Int} {part : List Int} {i : Nat} {a : Option Addr} {cap : Nat} (h : ExC w pX pP pI x part i a cap) (hL : EdAt w c L) (hl : L.length ≤ 100000) :
    Calls Tryd.prog 59 #[.slice c L.length cc, .func (.func 30) #[] #[.pointer (some ⟨pX, 0, none⟩), .pointer (some ⟨pP, 0, none⟩), .pointer (some ⟨pI, 0, none⟩)]] w
      fun e w' => (∃ r : Int, e = .returned (.int .i64 r) ∧ decide (0 ≤ r) = L.any (exQ x part i)) ∧ Below w.heap.size w w' := by
  have KX := Lib.hid (fun W (hW : Ext w W) b0 b1 => xpl1_any (h.ext hW) b0 b1)
  have HL := Lib.hid (fun W (hW : Ext w W) => hL.ext hW)
  obtain ⟨n, hn⟩ : ∃ n, L.length = n := ⟨_, rfl⟩
  have HN := Lib.hid hn
  rw [hn] at hl ⊢
  clear hn h hL
  go_enter Tryd.func59, Tryd.ntmps59
  go_wp2
  go_loopw [8] (fun i' wr => ∃ j : Nat, j ≤ n ∧ i' = .int .i64 j ∧ (L.take j).any (exQ x part i) = false ∧ Below w.heap.size w wr) (fun i _ => n - (intOf i).toNat)
  case atStart => exact ⟨0, Nat.zero_le _, rfl, by simp, Below.refl _ _⟩
  case round =>
    obtain ⟨j, hj, rfl, hA, hB⟩ := hrel
    have HA := Lib.hid hA
    have HB := Lib.hid (show Ext w wr from hB)
    clear hA hB
    by_cases hlt : j < n
    · have hjl : j < L.length := by rw [HN.out]; exact hlt
      obtain ⟨b, off, rfl, hc0, hc1⟩ := (HL.out wr HB.out) j hjl
      have HT := Lib.hid (show (L.take (j + 1)).any (exQ x part i) = exB x part i L[j].1 L[j].2 by rw [any_take hjl, HA.out]; rfl)
      have HM := Lib.hid (fun (h : exB x part i L[j].1 L[j].2 = true) => show L.any (exQ x part i) = true from List.any_eq_true.2 ⟨L[j], List.getElem_mem hjl, h⟩)
      have hi0 : (0 : Int) ≤ (j : Int) := by omega
      have hi1 : (j : Int) < (n : Int) := by omega
      have C := KX.out wr HB.out L[j].1 L[j].2
      generalize L[j].1 = b0 at *
      generalize L[j].2 = b1 at *
      cases hq : exB x part i b0 b1 with
      | true =>
        rw [hq] at C
        have HV := Lib.hid (HM.out hq)
        go_wp2_with fail
        refine C.mono ?_
        intro w2 hB2
        have HE2 := Lib.hid (Ext.trans HB.out hB2)
        clear hB2
        go_wp2
        go_ret
        exact ⟨⟨_, rfl, by rw [HV.out]; simp⟩, HE2.out⟩
      | false =>
        rw [hq] at C
        have HV := Lib.hid (show (L.take (j + 1)).any (exQ x part i) = false by rw [HT.out, hq])
        go_wp2_with fail
        refine C.mono ?_
        intro w2 hB2
        have HE2 := Lib.hid (Ext.trans HB.out hB2)
        clear hB2
        go_wp2
        exact ⟨⟨j + 1, by omega, by go_num, HV.out, HE2.out⟩, by simp [intOf]; omega⟩
    · have hk : L.take j = L := List.take_of_length_le (by rw [HN.out]; omega)
      have HV := Lib.hid (show L.any (exQ x part i) = false by rw [← hk]; exact HA.out)
      clear hk
      go_wp2
      go_ret
      exact ⟨⟨_, rfl, by rw [HV.out]; rfl⟩, HB.out⟩
theorem containsEx_any (L : List (Int × Int)) (c : Option Addr) (cc : Nat) {w : World} {pX pP pI : Nat} {x : Int} {part : List Int} {i : Nat} {a : Option Addr} {cap : Nat} (h : ExC w pX pP pI x part i a cap) (hL : EdAt w c L) (hl : L.length ≤ 100000) :
    Gives Tryd.prog 29 #[.slice c L.length cc, .func (.func 30) #[] #[.pointer (some ⟨pX, 0, none⟩), .pointer (some ⟨pP, 0, none⟩), .pointer (some ⟨pI, 0, none⟩)]] w (.bool (L.any (exQ x part i))) := by
  unfold Gives
  have C := Lib.hid (indexEx_any L c cc h hL hl)
  generalize L.any (exQ x part i) = b at *
  generalize L.length = n at *
  clear h hL
  go_enter Tryd.func29, Tryd.ntmps29
  go_wp2_with fail
  refine C.out.mono ?_
  rintro e w2 ⟨⟨r, rfl, hr⟩, hB2⟩
  go_wp2
  go_ret
  exact ⟨rfl, hB2⟩
/-- pairs as integers -/
def zEd (L : List (Nat × Nat)) : List (Int × Int) := L.map fun p => ((p.1 : Int), (p.2 : Int))
theorem RowEd.edAt {base : Nat} {v : Value} {L : List (Nat × Nat)} {w : World} (h : RowEd base v L w) : ∃ x cc, v = .slice x (zEd L).length cc ∧ EdAt w x (zEd L) := by
  obtain ⟨x, cc, hv, hm⟩ := h.look
  refine ⟨x, cc, by rw [hv]; simp [zEd], fun m hl => ?_⟩
  have hl' : m < L.length := by simpa [zEd] using hl
  obtain ⟨b, cur, hx, -, hb, h0, h1⟩ := hm m hl'
  refine ⟨b, 0, hx, ?_, ?_⟩
  · rw [Nat.zero_add]; exact cell_of hb (by simpa [zEd] using h0)
  · rw [Nat.zero_add]; exact cell_of hb (by simpa [zEd] using h1)
/-- the pairs say what the sets say -/
theorem ex_sub {l : List Cl} {part : List Nat} {i x : Nat} {s : Nat} (hx : x < l.length) (hs : ∀ j, s.testBit j = decide (j ∈ part.take i)) : (zEd (bfR l)).any (exQ (x : Int) (part.map Int.ofNat) i) = !subM (bef l x) s l.length := by
  cases hq : (zEd (bfR l)).any (exQ (x : Int) (part.map Int.ofNat) i) with
  | false =>
    have : subM (bef l x) s l.length = true := subM_iff.2 fun j hj hb => by
      rw [bef_at hj hx] at hb
      rw [hs]
      have hm : (j, x) ∈ bfR l := mem_bfR.2 ⟨hj, hx, by rw [befF_at hj hx]; exact hb⟩
      have h1 := List.any_eq_false.1 hq ((j : Int), (x : Int)) (List.mem_map.2 ⟨(j, x), hm, rfl⟩)
      simp only [exQ, exB, decide_true, Bool.true_and, Bool.not_eq_true', decide_eq_false_iff_not, Decidable.not_not, ← List.map_take, List.mem_map, Bool.not_eq_true] at h1
      simp only [decide_eq_true_eq]
      have h2 : ∃ a, a ∈ List.take i part ∧ ((a : Nat) : Int) = (j : Int) := by simpa using h1
      obtain ⟨a, ha, hz⟩ := h2
      have : a = j := by omega
      subst this; exact ha
    rw [this]; rfl
  | true =>
    obtain ⟨p, hp, h1⟩ := List.any_eq_true.1 hq
    obtain ⟨⟨j, y⟩, hm, rfl⟩ := List.mem_map.1 hp
    obtain ⟨hj, hy, hb⟩ := mem_bfR.1 hm
    simp only [exQ, exB, Bool.and_eq_true, decide_eq_true_eq, Bool.not_eq_true', decide_eq_false_iff_not] at h1
    have hyx : y = x := by have := h1.1; omega
    subst hyx
    cases hsu : subM (bef l y) s l.length with
    | false => rfl
    | true =>
      have h2 := subM_iff.1 hsu j hj (by rw [bef_at hj hx, ← befF_at hj hx]; exact hb)
      rw [hs] at h2
      have h3 := of_decide_eq_true h2
      exact absurd (by rw [← List.map_take]; exact List.mem_map.2 ⟨j, h3, rfl⟩) h1.2
end Go.Proofs.YtmbkjccckmlacaaDoor

namespace Go.Proofs.YtmbkjccckmlacaaDoor
open Go.RowKit
set_option linter.unusedVariables false
set_option linter.unusedSimpArgs false

/-- the reference's initial state -/
def rIni (k : Int) : List Int := if k = 1 ∨ k = 2 ∨ k = 6 then [0] else []
theorem rIni_eq {k z : Int} (h : mdE k z = 0) : rIni k = iniR k := by
  obtain ⟨h1, h6⟩ := mdE_k h
  unfold rIni iniR lsM
  have : k = 1 ∨ k = 2 ∨ k = 3 ∨ k = 4 ∨ k = 5 ∨ k = 6 := by omega
  rcases this with rfl | rfl | rfl | rfl | rfl | rfl <;> rfl
theorem RowI.lit1 (w W : World) (x : Int) (base : Nat) (hb : base ≤ W.heap.size) : RowI base (.slice (some ⟨W.heap.size, 0, none⟩) 1 1) [x] (W.alloc (.cells #[.int .i64 x] 3)) :=
  World.ownsRow_lit W #[.int .i64 x] 1 hb (by unfold maxLen; omega) (by simp)
theorem refInitial_any (k z : Int) (w : World) : Calls Tryd.prog 28 #[.agg #[.int .i64 k, .int .i64 z]] w (fun e w' => ∃ v, e = .returned v ∧ RowI w.heap.size v (rIni k) w' ∧ Ext w w') := by
  have HX := Lib.hid (ext_allocN w (.cells #[.int .i64 k, .int .i64 z] 23))
  have c0 := mdb0 w k z
  have HR := Lib.hid (show rIni k = if k = 1 ∨ k = 2 ∨ k = 6 then [0] else [] from rfl)
  generalize rIni k = R at *
  by_cases h1 : k = 1
  · have HRv := Lib.hid (show R = [0] by rw [HR.out, if_pos (Or.inl h1)])
    have d1 : (k == 1) = true := by simpa using h1
    clear h1 HR
    go_enter Tryd.func28, Tryd.ntmps28
    go_wp2
    go_ret
    obtain rfl := HRv.out
    exact ⟨_, rfl, by have := RowI.lit1 w (w.alloc (.cells #[.int .i64 k, .int .i64 z] 23)) 0 w.heap.size (by simp); simpa using this, HX.out.alloc (by simp) _⟩
  · have d1 : (k == 1) = false := by simpa using h1
    by_cases h2 : k = 2
    · have HRv := Lib.hid (show R = [0] by rw [HR.out, if_pos (Or.inr (Or.inl h2))])
      have d2 : (k == 2) = true := by simpa using h2
      clear h1 h2 HR
      go_enter Tryd.func28, Tryd.ntmps28
      go_wp2
      go_ret
      obtain rfl := HRv.out
      exact ⟨_, rfl, by have := RowI.lit1 w (w.alloc (.cells #[.int .i64 k, .int .i64 z] 23)) 0 w.heap.size (by simp); simpa using this, HX.out.alloc (by simp) _⟩
    · have d2 : (k == 2) = false := by simpa using h2
      by_cases h6 : k = 6
      · have HRv := Lib.hid (show R = [0] by rw [HR.out, if_pos (Or.inr (Or.inr h6))])
        have d6 : (k == 6) = true := by simpa using h6
        clear h1 h2 h6 HR
        go_enter Tryd.func28, Tryd.ntmps28
        go_wp2
        go_ret
        obtain rfl := HRv.out
        exact ⟨_, rfl, by have := RowI.lit1 w (w.alloc (.cells #[.int .i64 k, .int .i64 z] 23)) 0 w.heap.size (by simp); simpa using this, HX.out.alloc (by simp) _⟩
      · have d6 : (k == 6) = false := by simpa using h6
        have HRv := Lib.hid (show R = [] by rw [HR.out, if_neg (by omega)])
        clear h1 h2 h6 HR
        go_enter Tryd.func28, Tryd.ntmps28
        go_wp2
        go_ret
        obtain rfl := HRv.out
        exact ⟨_, rfl, RowI.nil _ _, HX.out⟩
/-- all blocks but rows of operations are as they were -/
def KeptOp (w w' : World) : Prop := w.heap.size ≤ w'.heap.size ∧ ∀ (b : Nat) o, w.heap[b]? = some o → (∀ c f, o ≠ .cells c tOp f) → w'.heap[b]? = some o
theorem KeptOp.of_ext {w w' : World} (h : Ext w w') : KeptOp w w' := ⟨h.size, fun b o hb _ => (h.below.block b (lt_of_block hb)).trans hb⟩
theorem KeptOp.trans {a b c : World} (h : KeptOp a b) (g : KeptOp b c) : KeptOp a c := ⟨Nat.le_trans h.1 g.1, fun k o hk hn => g.2 k o (h.2 k o hk hn) hn⟩
theorem RowI.keptOp {base : Nat} {v : Value} {l : List Int} {w w' : World} (h : RowI base v l w) (hk : KeptOp w w') : RowI base v l w' := by
  obtain ⟨h1, h2⟩ := h
  refine ⟨h1, ?_⟩
  rcases h2 with h2 | ⟨b, cap, cur, rfl, hb, hg, hn, hm, hs, ht⟩
  · exact .inl h2
  · exact .inr ⟨b, cap, cur, rfl, hb, hk.2 _ _ hg (fun c f e => by cases e), hn, hm, hs, ht⟩
variable {ops : Array Oper} {rest : List Oper} {o : Oper} {a : Act} {Q : Exit → Act → World → Prop}
theorem wp_appOK (hgd : o.guard = none) (s x : Operand) (ho : o.op = .call { callee := .builtin .append, args := #[s, x], argTypes := #[24, 24] })
    (base : Nat) (v : Value) (l : List Cl) (hs : a.eval s = v) (W : World) (h : RowO base v l W) (r : Cl) (g : Nat) (hgs : g = W.heap.size) (hx : a.eval x = .slice (some ⟨g, 0, none⟩) 1 1) (hlen : l.length ≤ 1000000000) (hbase : base ≤ W.heap.size)
    (hK : ∀ v' w', RowO base v' (l ++ [r]) w' → Below base W w' → KeptOp W w' → wpList Tryd.prog ops Q rest (a.put o.dst v') w') : wpList Tryd.prog ops Q (o :: rest) a (W.alloc (cClO r)) := by
  subst hgs
  obtain ⟨i0, hi, hz0, hz1, hz2⟩ := info_parts infoOp
  have hrow : RowO base v l (W.alloc (cClO r)) := h.ext (ext_allocN _ _)
  have hg0 := alloc_here W (cClO r)
  refine wpList_append_own _ hgd s x 24 ho base 48 i0 (.agg #[.int .i64 0, .int .i64 0, .int .i64 0, .int .i64 0, .int .i64 0, .int .i64 0]) 6 48 Tryd.underlying24 hi hz0 hz1 hz2 rfl (by decide) v l.length (l.flatMap cOp) hs hrow ⟨W.heap.size, 0, none⟩ 1 1 (cOp r) hx rfl (fun j u hu => ?_) (fun u hu => ?_) (by unfold maxLen; omega) (by omega) (by simp; omega) ?_
  · have e : (⟨W.heap.size, 0, none⟩ : Addr).add j = ⟨W.heap.size, j, none⟩ := by unfold Addr.add; split <;> simp_all
    rw [e]
    refine cell_of hg0 ?_
    simpa [cOp] using hu
  · simp only [cOp, List.mem_cons, List.not_mem_nil, or_false] at hu
    rcases hu with rfl | rfl | rfl | rfl | rfl | rfl <;> rfl
  · intro v' w' hown hg _
    refine hK v' w' ?_ ?_ ?_
    · unfold RowO
      simpa [List.flatMap_append] using hown
    · exact ((Below.refl base W).alloc hbase _).grown hg (by simp; omega) (fun k e => (World.ownsRow.lt hrow k e).1)
    · refine (KeptOp.of_ext (ext_allocN W _)).trans ⟨hg.size, fun b ob hb hne => (hg.block b (lt_of_block hb) (fun e => ?_)).trans hb⟩
      rcases hrow.2 with ⟨rfl, _⟩ | ⟨g, cap, cur, rfl, _, hgb, _⟩
      · simp [Value.ownBlock] at e
      · obtain rfl : g = b := by simpa [Value.ownBlock] using e.symm
        rw [hgb] at hb
        exact hne _ _ (Option.some.inj hb).symm

/-- the states of a sequential history -/
def stQ (k z : Int) (cs : List (Int × Int)) : Nat → List Int
  | 0 => rIni k
  | j + 1 => match cs[j]? with
    | some c => (apR k z (stQ k z cs j) c.1 c.2).1
    | none => stQ k z cs j
def erQ (k z : Int) (cs : List (Int × Int)) (j : Nat) : Int := match cs[j]? with
  | some c => (apR k z (stQ k z cs j) c.1 c.2).2.2
  | none => 0
def clQ (k z : Int) (cs : List (Int × Int)) (j : Nat) : Cl := match cs[j]? with
  | some c => ⟨(j : Int) % 3, c.1, c.2, (apR k z (stQ k z cs j) c.1 c.2).2.1, 2 * (j : Int), 2 * (j : Int) + 1⟩
  | none => ⟨0, 0, 0, 0, 0, 0⟩
def hQ (k z : Int) (cs : List (Int × Int)) (j : Nat) : List Cl := (List.range j).map (clQ k z cs)
def okQ (k z : Int) (cs : List (Int × Int)) (j : Nat) : Bool := (List.range j).all fun i => decide (erQ k z cs i = 0)
theorem hQ_succ (k z : Int) (cs : List (Int × Int)) (j : Nat) : hQ k z cs (j + 1) = hQ k z cs j ++ [clQ k z cs j] := by simp [hQ, List.range_succ]
theorem okQ_succ (k z : Int) (cs : List (Int × Int)) (j : Nat) : okQ k z cs (j + 1) = (okQ k z cs j && decide (erQ k z cs j = 0)) := by simp [okQ, List.range_succ]
theorem okQ_no {k z : Int} {cs : List (Int × Int)} {j n : Nat} (h : j < n) (he : erQ k z cs j ≠ 0) : okQ k z cs n = false := by
  cases hc : okQ k z cs n with
  | false => rfl
  | true =>
    have := List.all_eq_true.1 hc j (List.mem_range.2 h)
    exact absurd (of_decide_eq_true this) he
theorem stQ_len {k z : Int} {cs : List (Int × Int)} {j : Nat} (h : okQ k z cs j = true) : (stQ k z cs j).length ≤ 101 := by
  cases j with
  | zero => unfold stQ rIni; split <;> simp
  | succ j =>
    rw [okQ_succ, Bool.and_eq_true] at h
    have he := of_decide_eq_true h.2
    unfold erQ at he
    unfold stQ
    have := stQ_len h.1
    cases hc : cs[j]? with
    | none => simp only [hc]; omega
    | some c =>
      simp only [hc] at he ⊢
      unfold apR at he ⊢
      by_cases h1 : mdE k z = 0
      · rw [if_neg (by simpa using h1)] at he ⊢
        cases hs : stR k z (stQ k z cs j) with
        | false => rw [if_pos hs] at he; simp at he
        | true =>
          rw [if_neg (by simp [hs])]
          have h2 := st_len hs
          have h3 := apM_len k z (stQ k z cs j) c.1 c.2
          omega
      · rw [if_pos h1] at he; exact absurd he h1
theorem hQ_len (k z : Int) (cs : List (Int × Int)) (j : Nat) : (hQ k z cs j).length = j := by simp [hQ]
/-- a sequential history of calls -/
theorem seq_hQ {k z : Int} {cs : List (Int × Int)} (hm : mdE k z = 0) (h : okQ k z cs cs.length = true) : SeqH k z (hQ k z cs cs.length) (stQ k z cs) cs.length := by
  have hg : ∀ i (hi : i < (hQ k z cs cs.length).length), (hQ k z cs cs.length)[i] = clQ k z cs i := fun i hi => by simp [hQ]
  have hq : ∀ i (hi : i < cs.length), clQ k z cs i = ⟨(i : Int) % 3, cs[i].1, cs[i].2, (apR k z (stQ k z cs i) cs[i].1 cs[i].2).2.1, 2 * (i : Int), 2 * (i : Int) + 1⟩ := fun i hi => by
    unfold clQ; rw [List.getElem?_eq_getElem hi]
  refine ⟨by rw [hQ_len]; exact Nat.le_refl _, rIni_eq hm, fun i hi => ?_, fun i hi => ?_, fun i hi hp => ?_⟩
  · rw [hg i hi, hq i (by rw [hQ_len] at hi; exact hi)]
  · rw [hg i hi, hq i (by rw [hQ_len] at hi; exact hi)]
  · rw [hg i hi, hq i hp]
    dsimp only
    have he := of_decide_eq_true (List.all_eq_true.1 h i (List.mem_range.2 hp))
    unfold erQ at he
    have hst : stQ k z cs (i + 1) = (apR k z (stQ k z cs i) cs[i].1 cs[i].2).1 := by
      rw [stQ, List.getElem?_eq_getElem hp]
    rw [hst]
    rw [List.getElem?_eq_getElem hp] at he
    dsimp only at he
    have ha : apR k z (stQ k z cs i) cs[i].1 cs[i].2 = apM k z (stQ k z cs i) cs[i].1 cs[i].2 := by
      unfold apR at he ⊢
      rw [if_neg (by simpa using hm)] at he ⊢
      cases hs : stR k z (stQ k z cs i) with
      | false => rw [if_pos hs] at he; simp at he
      | true => rw [if_neg (by simp)]
    rw [ha] at he ⊢
    exact Prod.ext rfl (Prod.ext rfl he)
end Go.Proofs.YtmbkjccckmlacaaDoor

namespace Go.Proofs.YtmbkjccckmlacaaDoor
open Go.RowKit
set_option linter.unusedVariables false
set_option linter.unusedSimpArgs false

variable {k z : Int} {l : List Cl} {part : List Nat} {nd : Nat → Nd} {c : Nat}
theorem XpH.gd (h : XpH k z l part nd c) (hm : mdE k z = 0) : ∀ i, i ≤ part.length → Gd k z l (nd i)
  | 0, _ => by rw [h.nd0]; exact Gd.beg0 l hm
  | i + 1, hi => by
    obtain ⟨h1, h6⟩ := mdE_k hm
    exact (XpH.gd h hm i (by omega)).nxt h1 h6 (h.step i (by omega))
theorem XpH.lft (h : XpH k z l part nd c) : ∀ i, i ≤ part.length → lft l (nd 0) = Proofs.YtmbkjccckmlacaaDoor.lft l (nd i) + i
  | 0, _ => rfl
  | i + 1, hi => by
    have := XpH.lft h i (by omega)
    have := nxt_lft (h.step i (by omega))
    omega
theorem XpH.len (h : XpH k z l part nd c) : part.length ≤ l.length := by
  have := h.lft part.length (Nat.le_refl _)
  have := lft_le l (nd 0)
  omega
theorem XpH.lt (h : XpH k z l part nd c) (i : Nat) (hi : i < part.length) : part[i] < l.length := by
  obtain ⟨x, h1, -⟩ := nxt_some (h.step i hi)
  exact (List.getElem?_eq_some_iff.1 h1).1
theorem apR_ok {k z : Int} {s : List Int} (hm : mdE k z = 0) (hs : stR k z s = true) (m a : Int) : apR k z s m a = apM k z s m a := by
  unfold apR
  rw [if_neg (by simpa using hm), if_neg (by simp [hs])]
theorem XpH.yes (h : XpH k z l part nd c) (hm : mdE k z = 0) (i : Nat) (hi : i < part.length) :
    subM (bef l part[i]) (nd i).1 l.length = true ∧ ∃ rs, apR k z (nd i).2 (l[part[i]]'(h.lt i hi)).meth (l[part[i]]'(h.lt i hi)).arg = ((nd (i + 1)).2, rs, 0) ∧ ((l[part[i]]'(h.lt i hi)).en = -1 ∨ rs = (l[part[i]]'(h.lt i hi)).res) := by
  obtain ⟨x, h1, h2, h3, h4, h5, h6⟩ := nxt_some (h.step i hi)
  rw [List.getElem?_eq_getElem (h.lt i hi)] at h1
  obtain rfl := Option.some.inj h1
  refine ⟨h3, _, ?_, h5⟩
  rw [apR_ok hm (h.gd hm i (by omega)).st, h6]
  exact Prod.ext rfl (Prod.ext rfl h4)
theorem XpH.yesAt (h : XpH k z l part nd c) (hm : mdE k z = 0) (i : Nat) (hi : i < part.length) {j : Nat} (hj : j < l.length) (hq : part[i] = j) :
    subM (bef l j) (nd i).1 l.length = true ∧ ∃ rs, apR k z (nd i).2 l[j].meth l[j].arg = ((nd (i + 1)).2, rs, 0) ∧ (l[j].en = -1 ∨ rs = l[j].res) := by
  subst hq
  exact h.yes hm i hi
theorem XpH.no (h : XpH k z l part nd c) (hm : mdE k z = 0) (j : Nat) (hj : j < l.length) (hp : j ∉ part) :
    subM (bef l j) (nd part.length).1 l.length = false ∨ (apR k z (nd part.length).2 l[j].meth l[j].arg).2.2 ≠ 0 ∨ (l[j].en ≠ -1 ∧ (apR k z (nd part.length).2 l[j].meth l[j].arg).2.1 ≠ l[j].res) := by
  have hb : (nd part.length).1.testBit j = false := by
    rw [h.bits part.length (Nat.le_refl _) j, List.take_length]
    exact decide_eq_false hp
  have hc := can_no (h.stop j hp) hb
  rw [apR_ok hm (h.gd hm part.length (Nat.le_refl _)).st]
  unfold canF at hc
  rw [List.getElem?_eq_getElem hj] at hc
  dsimp only at hc
  cases h1 : subM (bef l j) (nd part.length).1 l.length with
  | false => exact .inl rfl
  | true =>
    right
    rw [h1, Bool.true_and, decide_eq_false_iff_not] at hc
    by_cases h2 : (apM k z (nd part.length).2 l[j].meth l[j].arg).2.2 = 0
    · right
      have h3 := fun g => hc ⟨h2, g⟩
      exact ⟨fun e => h3 (Or.inl e), fun e => h3 (Or.inr e)⟩
    · exact .inl h2
/-- the state in the inner loop -/
def stI (part : List Nat) (nd : Nat → Nd) (i j : Nat) : List Int := match part[i]? with
  | some q => if q < j then (nd (i + 1)).2 else (nd i).2
  | none => (nd i).2
theorem stI_zero (part : List Nat) (nd : Nat → Nd) (i : Nat) : stI part nd i 0 = (nd i).2 := by unfold stI; split <;> simp
theorem stI_skip {part : List Nat} {nd : Nat → Nd} {i j : Nat} (h : ∀ (hi : i < part.length), part[i] ≠ j) : stI part nd i (j + 1) = stI part nd i j := by
  unfold stI
  by_cases hi : i < part.length
  · rw [List.getElem?_eq_getElem hi]
    dsimp only
    have := h hi
    by_cases hq : part[i] < j
    · rw [if_pos hq, if_pos (by omega)]
    · rw [if_neg hq, if_neg (by omega)]
  · rw [List.getElem?_eq_none (by omega)]
theorem stI_at {part : List Nat} {nd : Nat → Nd} {i j : Nat} (hi : i < part.length) (h : part[i] = j) : stI part nd i j = (nd i).2 ∧ stI part nd i (j + 1) = (nd (i + 1)).2 := by
  unfold stI
  rw [List.getElem?_eq_getElem hi]
  dsimp only
  rw [if_neg (by omega), if_pos (by omega)]
  exact ⟨rfl, rfl⟩
theorem stI_end {part : List Nat} {nd : Nat → Nd} {j : Nat} : stI part nd part.length j = (nd part.length).2 := by
  unfold stI
  rw [List.getElem?_eq_none (by omega)]
theorem XpH.last (h : XpH k z l part nd c) {i : Nat} (hi : i < part.length) : stI part nd i l.length = (nd (i + 1)).2 := by
  unfold stI
  rw [List.getElem?_eq_getElem hi]
  dsimp only
  rw [if_pos (h.lt i hi)]
theorem rIni_gd {k z : Int} (h : mdE k z = 0) (hx : XpH k z l part nd c) : rIni k = (nd 0).2 := by rw [hx.nd0, rIni_eq h]; rfl
/-- Explain and Search, all cases -/
theorem xpl_bad {k z : Int} {l : List Cl} (h : srE k z l ≠ 0) : xplR k z l = ([], 0, srE k z l) ∧ srhR k z l = ([], false, srE k z l) := by
  unfold xplR srhR
  rw [if_pos h, if_pos h]
  exact ⟨rfl, rfl⟩
theorem xpl_yes {k z : Int} {l : List Cl} (h : srE k z l = 0) (hy : (srhR k z l).2.1 = true) : xplR k z l = ((srhR k z l).1, -1, 0) ∧ (srhR k z l).2.2 = 0 := by
  have hs : (srhR k z l) = ((serR k z l).1, (serR k z l).2, 0) := by unfold srhR; rw [if_neg (by simpa using h)]
  rw [hs] at hy ⊢
  refine ⟨?_, rfl⟩
  unfold xplR
  rw [if_neg (by simpa using h), if_pos hy]
end Go.Proofs.YtmbkjccckmlacaaDoor

namespace Go.Proofs.YtmbkjccckmlacaaDoor
open Go.RowKit
set_option linter.unusedVariables false
set_option linter.unusedSimpArgs false

structure Bx (p : Prop) : Prop where
  out : p
theorem wpStill_stepH {P : Program} {ops : Array Oper} {w : World} {Q : Act → Prop} {a : Act} {o : Oper} {rest : List Oper} (h : ∀ K : Act → Prop, (∀ a, Bx (wpStill P ops w Q rest a) → K a) → if Region.wanted o (yielded ops a.tmps) then o.still P a w K else K (a.put o.dst undef)) : Bx (wpStill P ops w Q (o :: rest) a) := ⟨wpStill_step fun K hK => h K (fun a g => hK a g.out)⟩
set_option maxRecDepth 100000 in
set_option maxHeartbeats 8000000 in
theorem explains3 (k z : Int) (l : List Cl) (a : Option Addr) (c : Nat) (w : World) (hO : OpIn w a c l) (hT : TabW w) (hg : grH l.length = false) (he : srE k z l = 0) (hno : (srhR k z l).2.1 = false) :
    Gives Tryd.prog 9 #[.agg #[.int .i64 k, .int .i64 z], .slice a l.length c] w (.bool true) := by
  obtain ⟨hHs, hlc, hlm, -⟩ := hO
  obtain ⟨hmd, hck, hl⟩ := srE_parts he
  obtain ⟨part, nd, cI, hx, hX⟩ := xpl_law he hno
  unfold Gives
  have KA := Lib.hid (fun W (hW : Ext w W) => awake_any W (hT.below hW.below))
  have HX1 := Lib.hid (ext_allocN w (.cells #[.int .i64 k, .int .i64 z] 23))
  have HMD := Lib.hid (mdCells w k z)
  have KG := Lib.hid (fun W => show Gives _ _ _ _ (.bool false) from hg ▸ great_any l.length a c W)
  have KX := Lib.hid (fun W (hW : Ext w W) => show Calls Tryd.prog 18 #[.agg #[.int .i64 k, .int .i64 z], .slice a l.length c] W (XpP W (part, ((cI : Nat) : Int), 0)) from hx ▸ Explain_any k z l a c W (hHs.ext hW) hlm (hT.below hW.below))
  have KS := Lib.hid (fun W (hW : Ext w W) => Search_any k z l a c W (hHs.ext hW) hlm (hT.below hW.below))
  have KB := Lib.hid (fun W (hW : Ext w W) => Before_any l a c W (hHs.ext hW) (by omega) hck)
  have KI := Lib.hid (fun W => refInitial_any k z W)
  have HH := Lib.hid (fun W (hW : Ext w W) => hHs.ext hW)
  have HXX := Lib.hid hX
  have HMM := Lib.hid hmd
  have HIN := Lib.hid (rIni_gd hmd hX)
  have HSL := Lib.hid (fun i (hi : i ≤ part.length) => st_len (hX.gd hmd i hi).st)
  have hclt := hX.clt
  have HCE := Lib.hid (show l[cI].en ≠ -1 from hX.cen hclt)
  have HCN := Lib.hid (show decide ((cI : Int) ∈ part.map Int.ofNat) = false from decide_eq_false fun h => by
    obtain ⟨j, hj, e⟩ := List.mem_map.1 h
    obtain rfl : j = cI := by have : ((j : Nat) : Int) = (cI : Int) := e; omega
    exact hX.cno hj)
  have hplen := hX.len
  have hbl : (zEd (bfR l)).length ≤ 100000 := by
    have := bfP_le l l.length 0 (by omega) (by omega) (by omega)
    rw [bfP_end] at this
    simp only [zEd, List.length_map]; omega
  have HBL := Lib.hid hbl
  unfold XpP at KX
  unfold ShP at KS
  unfold BfP at KB
  dsimp only at KX
  rw [hno] at KS
  have he2 : (srhR k z l).2.2 = 0 := by rw [srh_e]; exact he
  rw [he2] at KS
  clear hHs hlm hT hg he hno hck hx hX hmd he2 hbl
  obtain ⟨nl, hnl⟩ : ∃ n, l.length = n := ⟨_, rfl⟩
  have HNL := Lib.hid hnl
  obtain ⟨lp, hlp⟩ : ∃ n, part.length = n := ⟨_, rfl⟩
  have HLP := Lib.hid hlp
  have HLPM := Lib.hid (show (part.map Int.ofNat).length = lp by rw [List.length_map]; exact hlp)
  rw [hnl] at KX KS KB KG hl hlc hclt hplen ⊢
  rw [hlp] at hplen
  obtain ⟨bl, ol, hla, y0, y1, y2, y3, y4, y5⟩ := (HH.out w (Below.refl _ _)) cI (by rw [HNL.out]; exact hclt)
  subst hla
  have HCI := Lib.hid (fun W (hW : Ext w W) => show W.cell? ⟨bl, ol + cI * 6 + 5, none⟩ = some (.int .i64 (l[cI]'(by rw [HNL.out]; exact hclt)).en) from (hW.below.cell (cell_lt y5)).trans y5)
  have hcg1 : ((l[cI]'(by rw [HNL.out]; exact hclt)).en == -1) = false := by simpa using HCE.out
  generalize (l[cI]'(by rw [HNL.out]; exact hclt)).en = cen at *
  clear y0 y1 y2 y3 y4 y5 hnl hlp
  have hci0 : (0 : Int) ≤ (cI : Int) := by omega
  have hci1 : (cI : Int) < (nl : Int) := by omega
  go_enter Tryd.func9, Tryd.ntmps9
  go_wp2_with fail
  refine (KG.out _).mono ?_
  intro w2 hE2
  have HX2 := Lib.hid hE2
  have HE2 := Lib.hid (Ext.trans HX1.out hE2)
  clear hE2
  obtain ⟨m0, m1⟩ := HMD.out w2 HX2.out
  go_wp2_with fail
  refine (KX.out _ HE2.out).mono ?_
  rintro e w3 ⟨v3, rfl, hr3, hE3⟩
  obtain ⟨a3, c3, hv3, hi3, hc3, -⟩ := hr3.look
  rw [HLPM.out] at hv3 hc3
  subst hv3
  have HI3 := Lib.hid hi3
  have HE3 := Lib.hid (Ext.trans HE2.out hE3)
  have HX3 := Lib.hid (Ext.trans HX2.out hE3)
  clear hE3 hr3 hi3 m0 m1
  have HXP := Lib.hid (ext_allocN w3 (.cells #[.slice a3 lp c3] 27))
  have HBP := Lib.hid (alloc_here w3 (.cells #[.slice a3 lp c3] 27))
  obtain ⟨m0, m1⟩ := HMD.out _ (Ext.trans HX3.out HXP.out)
  go_wp2_with fail
  refine (KS.out _ (Ext.trans HE3.out HXP.out)).mono ?_
  rintro e w4 ⟨v4, rfl, -, hE4⟩
  have HPB := Lib.hid ((hE4.below.block _ (lt_of_block HBP.out)).trans HBP.out)
  have HX34 := Lib.hid (Ext.trans HXP.out hE4)
  have HE4 := Lib.hid (Ext.trans HE3.out HX34.out)
  have HX4 := Lib.hid (Ext.trans HX3.out HX34.out)
  clear hE4 m0 m1
  go_wp2_with fail
  refine (KB.out _ HE4.out).mono ?_
  rintro e w5 ⟨v5, rfl, hr5, hE5⟩
  obtain ⟨xb, cb, hv5, hi5⟩ := hr5.edAt
  obtain ⟨le, hle⟩ : ∃ n, (zEd (bfR l)).length = n := ⟨_, rfl⟩
  rw [hle] at hv5
  have HLE := Lib.hid hle
  clear hle
  subst hv5
  have HED := Lib.hid hi5
  have HPB5 := Lib.hid ((hE5.below.block _ (lt_of_block HPB.out)).trans HPB.out)
  have HE5 := Lib.hid (Ext.trans HE4.out hE5)
  have HX5 := Lib.hid (Ext.trans HX4.out hE5)
  have HX35 := Lib.hid (Ext.trans HX34.out hE5)
  clear hE5 hr5 hi5
  have p0 : w5.cell? ⟨w3.heap.size, 0, none⟩ = some (.slice a3 lp c3) := cell_of HPB5.out rfl
  have q5 := HCI.out w5 HE5.out
  have KCo := Lib.hid (show Gives Tryd.prog 27 #[.slice a3 lp c3, .int .i64 (cI : Int)] w5 (.bool false) from by
    have := contains_any (part.map Int.ofNat) (cI : Int) a3 c3 w5 (by rw [HLPM.out]; omega) (HI3.out.ext HX35.out)
    rw [HLPM.out, HCN.out] at this
    exact this)
  go_wp2_with fail
  refine KCo.out.mono ?_
  intro w6 hE6
  have HE6 := Lib.hid (Ext.trans HE5.out hE6)
  have HX6 := Lib.hid (Ext.trans HX5.out hE6)
  have HX56 := Lib.hid (show Ext w5 w6 from hE6)
  clear hE6 p0 q5
  obtain ⟨m0, m1⟩ := HMD.out w6 HX6.out
  go_wp2_with fail
  refine (KI.out _).mono ?_
  rintro e w7 ⟨v7, rfl, hr7, hE7⟩
  have HR7 := Lib.hid (show RowI w.heap.size v7 (nd 0).2 w7 from by rw [← HIN.out]; exact hr7.le HE6.out.size)
  have HE7 := Lib.hid (Ext.trans HE6.out hE7)
  have HX7 := Lib.hid (Ext.trans HX6.out hE7)
  have HX57 := Lib.hid (Ext.trans HX56.out hE7)
  clear hr7 hE7 m0 m1
  have HXI := Lib.hid (ext_allocN w7 (.cells #[.int .i64 0] 3))
  have HBI := Lib.hid (alloc_here w7 (.cells #[.int .i64 0] 3))
  go_wp2_with fail
  go_loopg [13, 14] (lp + 1) (fun n vs vp wr => ∃ i bi, n + i = lp + 1 ∧ vp = .pointer (some ⟨bi, 0, none⟩) ∧ w7.heap.size ≤ bi ∧ wr.heap[bi]? = some (.cells #[.int .i64 (i : Int)] 3 (0, 0)) ∧ RowI w.heap.size vs (nd (min i lp)).2 wr ∧ Ext w7 wr)
  case atStart => exact ⟨0, _, rfl, rfl, Nat.le_refl _, HBI.out, by rw [Nat.zero_min]; exact HR7.out.ext HXI.out, HXI.out⟩
  case round =>
    obtain ⟨i, bi, hni, rfl, hbi, hbx, hrs, hEr⟩ := hrel
    have HBX := Lib.hid hbx
    have HRS := Lib.hid hrs
    have HER := Lib.hid hEr
    have HNI := Lib.hid hni
    have hi1 : i ≤ lp + 1 := by omega
    clear hbx hrs hEr hni
    have c14 : wr.cell? ⟨bi, 0, none⟩ = some (.int .i64 (i : Int)) := cell_of HBX.out rfl
    have HP5 := Lib.hid (fun W (hW : Ext w7 W) => show W.cell? ⟨w3.heap.size, 0, none⟩ = some (.slice a3 lp c3) from cell_of ((Below.block (show Below w5.heap.size w5 W from Ext.trans HX57.out hW) _ (lt_of_block HPB5.out)).trans HPB5.out) rfl)
    have c5 := HP5.out wr HER.out
    by_cases hil : i ≤ lp
    · have d1 : decide ((i : Int) ≤ (lp : Int)) = true := by simp; omega
      obtain ⟨wo, rfl⟩ : ∃ wo : World, wo = wr := ⟨_, rfl⟩
      have HRS0 := HRS.out
      rw [Nat.min_eq_left hil, ← stI_zero part nd i] at HRS0
      have HRS0 := Lib.hid HRS0
      go_wp2_with fail
      clear c14 c5 d1
      go_loopw [13, 104] (fun vs jv wi => ∃ j : Nat, j ≤ nl ∧ jv = .int .i64 (j : Int) ∧ RowI w.heap.size vs (stI part nd i j) wi ∧ Ext wo wi) (fun _ jv _ => nl - (intOf jv).toNat)
      case atStart => exact ⟨0, Nat.zero_le _, rfl, HRS0.out, Below.refl _ _⟩
      case round =>
        obtain ⟨j, hj, rfl, hrw, hEi⟩ := hrel
        have HRW := Lib.hid hrw
        have HEI := Lib.hid hEi
        clear hrw hEi
        have HC14 := Lib.hid (fun W (hW : Ext wo W) => show W.cell? ⟨bi, 0, none⟩ = some (.int .i64 (i : Int)) from cell_of ((hW.below.block _ (lt_of_block HBX.out)).trans HBX.out) rfl)
        by_cases hlt : j < nl
        · have hjl : j < l.length := by rw [HNL.out]; exact hlt
          have hj0 : (0 : Int) ≤ (j : Int) := by omega
          have hj1 : (j : Int) < (nl : Int) := by omega
          have hi0 : (0 : Int) ≤ (i : Int) := by omega
          have HXW := Lib.hid (ext_allocN wr (.cells #[.int .i64 (j : Int)] 3))
          have HBW := Lib.hid (alloc_here wr (.cells #[.int .i64 (j : Int)] 3))
          obtain ⟨w1, hw1⟩ : ∃ W, W = wr.alloc (.cells #[.int .i64 (j : Int)] 3) := ⟨_, rfl⟩
          have hw1' := hw1.symm
          rw [hw1'] at HXW HBW
          clear hw1
          have HO1 := Lib.hid (Ext.trans HEI.out HXW.out)
          have H71 := Lib.hid (Ext.trans HER.out HO1.out)
          have HC15 := Lib.hid (fun W (hW : Ext w1 W) => show W.cell? ⟨wr.heap.size, 0, none⟩ = some (.int .i64 (j : Int)) from cell_of ((hW.below.block _ (lt_of_block HBW.out)).trans HBW.out) rfl)
          have c14 := HC14.out w1 HO1.out
          have c5 := HP5.out w1 H71.out
          have c15 := HC15.out w1 (Below.refl _ _)
          have HXC := Lib.hid (fun W (hW : Ext w1 W) => show ExC W wr.heap.size w3.heap.size bi (j : Int) (part.map Int.ofNat) i a3 c3 from
            ⟨HC15.out W hW, by rw [HLPM.out]; exact HP5.out W (Ext.trans H71.out hW), HC14.out W (Ext.trans HO1.out hW), by rw [HLPM.out]; exact hil, by rw [HLPM.out]; exact hc3, by rw [HLPM.out]; omega, HI3.out.ext (Ext.trans HX35.out (Ext.trans HX57.out (Ext.trans H71.out hW)))⟩)
          have KE := Lib.hid (fun W (hW : Ext w1 W) => show Gives Tryd.prog 29 #[.slice xb le cb, .func (.func 30) #[] #[.pointer (some ⟨wr.heap.size, 0, none⟩), .pointer (some ⟨w3.heap.size, 0, none⟩), .pointer (some ⟨bi, 0, none⟩)]] W (.bool (!subM (bef l j) (nd i).1 l.length)) from by
            have := containsEx_any (zEd (bfR l)) xb cb (HXC.out W hW) (HED.out.ext (Ext.trans HX57.out (Ext.trans H71.out hW))) HBL.out
            rw [HLE.out, ex_sub hjl (HXX.out.bits i (by rw [HLP.out]; exact hil))] at this
            exact this)
          have KAp := Lib.hid (fun W (hW : Ext w1 W) (y : Option Addr) (cc : Nat) (m ar : Int) (hI : IntsAt W y (nd i).2) (hc : (nd i).2.length ≤ cc) => Apply_any k z (nd i).2 m ar y cc W (by have := HSL.out i (by rw [HLP.out]; exact hil); unfold maxLen; omega) hI hc)
          have HCL := Lib.hid (fun W (hW : Ext w1 W) => show Cl.cells W bl (ol + j * 6) l[j] from by
            obtain ⟨b', o', e', hc'⟩ := (HH.out W (Ext.trans HE7.out (Ext.trans H71.out hW))) j hjl
            cases e'
            exact hc')
          have HBW2 := Lib.hid (fun W (hW : Ext w1 W) => show w.heap.size ≤ W.heap.size from (Ext.trans HE7.out (Ext.trans H71.out hW)).size)
          have HMW := Lib.hid (fun W (hW : Ext w1 W) => HMD.out W (Ext.trans HX7.out (Ext.trans H71.out hW)))
          by_cases hlast : i = lp
          · have hl2 : lp = i := hlast.symm
            clear hlast
            subst hl2
            have HSI := Lib.hid (show stI part nd lp (j + 1) = stI part nd lp j from stI_skip (fun hi => by rw [HLP.out] at hi; omega))
            have HCO := Lib.hid (fun W (hW : Ext w1 W) => show Gives Tryd.prog 27 #[.slice a3 lp c3, .int .i64 (j : Int)] W (.bool (decide ((j : Int) ∈ part.map Int.ofNat))) from by
              have := contains_any (part.map Int.ofNat) (j : Int) a3 c3 W (by rw [HLPM.out]; omega) (HI3.out.ext (Ext.trans HX35.out (Ext.trans HX57.out (Ext.trans H71.out hW))))
              rw [HLPM.out] at this
              exact this)
            cases hin : decide ((j : Int) ∈ part.map Int.ofNat) with
            | true =>
              rw [hin] at HCO
              clear hin
              go_wp2_with fail
              try rw [hw1']
              refine wp_region_still_tail 20 (by kernel_rfl) (by kernel_rfl) ?_
              simp only [List.take_succ_cons, List.take_zero, List.drop_succ_cons, List.drop_zero]
              refine Bx.out ?_
              iterate 20 (refine wpStill_stepH (fun K hK => ?_); go_simp; refine hK _ ?_; clear hK K)
              refine ⟨wpStill_nil ?_⟩
              go_wp2_with fail
              refine (HCO.out _ (Ext.drewN' (n := 1) (Below.refl _ _))).mono ?_
              intro w8 hE8
              have HE8 := Lib.hid (Ext.trans HO1.out (Ext.trans (show Ext w1 w1.drew from Ext.drewN' (n := 1) (Below.refl _ _)) hE8))
              have HEW8 := Lib.hid (Ext.trans HXW.out (Ext.trans (show Ext w1 w1.drew from Ext.drewN' (n := 1) (Below.refl _ _)) hE8))
              clear hE8
              go_wp2
              exact ⟨⟨j + 1, by omega, by go_num, by rw [HSI.out]; exact HRW.out.ext HEW8.out, HE8.out⟩, by simp [intOf]; omega⟩
            | false =>
              rw [hin] at HCO
              have HNP := Lib.hid (show j ∉ part from fun h => by
                have := of_decide_eq_false hin
                exact this (List.mem_map.2 ⟨j, h, rfl⟩))
              have HNO := Lib.hid (show subM (bef l j) (nd lp).1 l.length = false ∨ (apR k z (nd lp).2 l[j].meth l[j].arg).2.2 ≠ 0 ∨ (l[j].en ≠ -1 ∧ (apR k z (nd lp).2 l[j].meth l[j].arg).2.1 ≠ l[j].res) from by
                have := HXX.out.no HMM.out j hjl HNP.out
                rw [HLP.out] at this
                exact this)
              have HRW2 := HRW.out
              rw [show stI part nd lp j = (nd lp).2 from by have := stI_end (part := part) (nd := nd) (j := j); rw [HLP.out] at this; exact this] at HRW2
              obtain ⟨ys, cs, hvs, hi8, hc8, -⟩ := HRW2.look
              have HI8 := Lib.hid hi8
              have HC8 := Lib.hid hc8
              have HRWx := Lib.hid HRW.out
              clear hin hi8 hc8 HRW2
              subst hvs
              have KAX := Lib.hid (fun W (hW : Ext w1 W) => KAp.out W hW ys cs l[j].meth l[j].arg (HI8.out.ext (Ext.trans HXW.out hW)) HC8.out)
              have HCL2 := Lib.hid HCL.out
              unfold Cl.cells at HCL2
              unfold AyP at KAX
              generalize ((nd lp).2).length = ls at *
              generalize apR k z (nd lp).2 l[j].meth l[j].arg = Z at *
              generalize l[j] = x at *
              obtain ⟨tk, me, ar, re, be, en⟩ := x
              obtain ⟨Z1, rs, er⟩ := Z
              dsimp only at HNO KAX HCL2
              clear HCL KAp
              have hcase : (subM (bef l j) (nd lp).1 l.length = false) ∨ (subM (bef l j) (nd lp).1 l.length = true ∧ (er == 0) = false) ∨ (subM (bef l j) (nd lp).1 l.length = true ∧ (er == 0) = true ∧ (en == -1) = false ∧ (rs == re) = false) := by
                rcases HNO.out with h | h | ⟨h, h'⟩
                · exact .inl h
                · cases hs : subM (bef l j) (nd lp).1 l.length with
                  | false => exact .inl rfl
                  | true => exact .inr (.inl ⟨rfl, by simpa using h⟩)
                · cases hs : subM (bef l j) (nd lp).1 l.length with
                  | false => exact .inl rfl
                  | true =>
                    by_cases he : er = 0
                    · exact .inr (.inr ⟨rfl, by simpa using he, by simpa using h, by simpa using h'⟩)
                    · exact .inr (.inl ⟨rfl, by simpa using he⟩)
              generalize subM (bef l j) (nd lp).1 l.length = sb at *
              go_wp2_with fail
              try rw [hw1']
              refine wp_region_still_tail 20 (by kernel_rfl) (by kernel_rfl) ?_
              simp only [List.take_succ_cons, List.take_zero, List.drop_succ_cons, List.drop_zero]
              refine Bx.out ?_
              iterate 20 (refine wpStill_stepH (fun K hK => ?_); go_simp; refine hK _ ?_; clear hK K)
              refine ⟨wpStill_nil ?_⟩
              go_wp2_with fail
              refine (HCO.out _ (Ext.drewN' (n := 1) (Below.refl _ _))).mono ?_
              intro w8 hE8
              have HE8 := Lib.hid (Ext.trans (show Ext w1 w1.drew from Ext.drewN' (n := 1) (Below.refl _ _)) hE8)
              clear hE8 c14 c5 c15
              go_wp2_with fail
              refine (KE.out _ HE8.out).mono ?_
              intro w9 hE9
              have HE9 := Lib.hid (Ext.trans HE8.out hE9)
              clear hE9
              obtain ⟨m0, m1⟩ := HMW.out w9 HE9.out
              have c15 := HC15.out w9 HE9.out
              obtain ⟨x0, x1, x2, x3, x4, x5⟩ := HCL2.out w9 HE9.out
              go_wp2_with fail
              refine wp_region_tail (l1 := [_, _, _, _, _, _, _, _, _, _, _, _, _, _, _, _, _, _, _]) (l2 := [_]) (by kernel_rfl) Ext (fun W => Below.refl _ W) (fun W => show Below W.heap.size W { W with drawn := W.drawn + 1 } from ⟨rfl, rfl, rfl, Nat.le_refl _, fun _ _ => rfl⟩) Ext.trans
                (fun i s W => match i with
                  | 0 => s 0 = .agg #[.int .i64 k, .int .i64 z]
                  | 1 => s 1 = .slice ys ls cs
                  | 2 => s 2 = .slice (some ⟨bl, ol, none⟩) nl c
                  | 3 => s 3 = .int .i64 (j : Int)
                  | 4 => s 4 = .pointer (some ⟨bl, ol + j * 6, none⟩)
                  | 5 => s 5 = .pointer (some ⟨bl, ol + j * 6 + 1, none⟩)
                  | 6 => s 6 = .int .i64 me
                  | 7 => s 7 = .slice (some ⟨bl, ol, none⟩) nl c
                  | 8 => s 8 = .int .i64 (j : Int)
                  | 9 => s 9 = .pointer (some ⟨bl, ol + j * 6, none⟩)
                  | 10 => s 10 = .pointer (some ⟨bl, ol + j * 6 + 2, none⟩)
                  | 11 => s 11 = .int .i64 ar
                  | 12 => ∃ v, s 12 = .tuple #[v, .int .i64 rs, .int .i64 er] ∧ RowI w.heap.size v Z1 W
                  | 13 => ∃ v, s 13 = .tuple #[v, .int .i64 rs, .int .i64 er] ∧ RowI w.heap.size v Z1 W
                  | 14 => RowI w.heap.size (s 14) Z1 W
                  | 15 => s 15 = .int .i64 rs
                  | 16 => s 16 = .int .i64 er
                  | 17 => RowI w.heap.size (s 17) Z1 W
                  | 18 => s 18 = .int .i64 rs
                  | _ => True)
                (fun i => [i])
                (by
                  intro i s s' W W' h hs hE
                  have hs := hs i (by simp)
                  match i, h, hs with
                  | 0, h, hs => exact hs.trans h
                  | 1, h, hs => exact hs.trans h
                  | 2, h, hs => exact hs.trans h
                  | 3, h, hs => exact hs.trans h
                  | 4, h, hs => exact hs.trans h
                  | 5, h, hs => exact hs.trans h
                  | 6, h, hs => exact hs.trans h
                  | 7, h, hs => exact hs.trans h
                  | 8, h, hs => exact hs.trans h
                  | 9, h, hs => exact hs.trans h
                  | 10, h, hs => exact hs.trans h
                  | 11, h, hs => exact hs.trans h
                  | 12, ⟨v, h, h1⟩, hs => exact ⟨v, hs.trans h, h1.ext hE⟩
                  | 13, ⟨v, h, h1⟩, hs => exact ⟨v, hs.trans h, h1.ext hE⟩
                  | 14, h, hs => exact (by rw [hs]; exact RowI.ext h hE)
                  | 15, h, hs => exact hs.trans h
                  | 16, h, hs => exact hs.trans h
                  | 17, h, hs => exact (by rw [hs]; exact RowI.ext h hE)
                  | 18, h, hs => exact hs.trans h
                  | i + 19, h, hs => exact trivial)
                (by kernel_rfl) (by kernel_rfl) (by kernel_rfl) 187 rfl (by kernel_rfl) (by kernel_rfl) ?_ ?_
              · intro i op ho a' W hA
                obtain ⟨m0, m1⟩ := HMW.out W (Ext.trans HE9.out hA.rel)
                have c15 := HC15.out W (Ext.trans HE9.out hA.rel)
                obtain ⟨x0, x1, x2, x3, x4, x5⟩ := HCL2.out W (Ext.trans HE9.out hA.rel)
                match i, ho with
                | 0, ho =>
                  obtain rfl := Option.some.inj ho
                  have e1 : a'.eval (.tmp 2) = .pointer (some ⟨w.heap.size, 0, none⟩) := hA.keep 2 (by kernel_rfl)
                  refine GoesG.value (.agg #[.int .i64 k, .int .i64 z]) rfl ?_ (Below.refl _ _) (fun s h1 h2 => h1 rfl)
                  simp only [execOp, e1]
                  simp [go_sem, m0, m1, c15, x1, x2, hj0, hj1]
                | 1, ho =>
                  obtain rfl := Option.some.inj ho
                  have e1 : a'.eval (.tmp 13) = .slice ys ls cs := hA.keep 13 (by kernel_rfl)
                  refine GoesG.value (.slice ys ls cs) rfl ?_ (Below.refl _ _) (fun s h1 h2 => h1 rfl)
                  simp only [execOp, e1]
                  simp [go_sem, m0, m1, c15, x1, x2, hj0, hj1]
                | 2, ho =>
                  obtain rfl := Option.some.inj ho
                  have e1 : a'.eval (.tmp 1) = .slice (some ⟨bl, ol, none⟩) nl c := hA.keep 1 (by kernel_rfl)
                  refine GoesG.value (.slice (some ⟨bl, ol, none⟩) nl c) rfl ?_ (Below.refl _ _) (fun s h1 h2 => h1 rfl)
                  simp only [execOp, e1]
                  simp [go_sem, m0, m1, c15, x1, x2, hj0, hj1]
                | 3, ho =>
                  obtain rfl := Option.some.inj ho
                  have e1 : a'.eval (.tmp 15) = .pointer (some ⟨wr.heap.size, 0, none⟩) := hA.keep 15 (by kernel_rfl)
                  refine GoesG.value (.int .i64 (j : Int)) rfl ?_ (Below.refl _ _) (fun s h1 h2 => h1 rfl)
                  simp only [execOp, e1]
                  simp [go_sem, m0, m1, c15, x1, x2, hj0, hj1]
                | 4, ho =>
                  obtain rfl := Option.some.inj ho
                  have e1 : a'.eval (.tmp 137) = .slice (some ⟨bl, ol, none⟩) nl c := (sv_dst (l := _) rfl).symm.trans (hA.new 2 (by decide) (by kernel_rfl))
                  have e2 : a'.eval (.tmp 138) = .int .i64 (j : Int) := (sv_dst (l := _) rfl).symm.trans (hA.new 3 (by decide) (by kernel_rfl))
                  refine GoesG.value (.pointer (some ⟨bl, ol + j * 6, none⟩)) rfl ?_ (Below.refl _ _) (fun s h1 h2 => h1 rfl)
                  simp only [execOp, e1, e2]
                  simp [go_sem, m0, m1, c15, x1, x2, hj0, hj1]
                | 5, ho =>
                  obtain rfl := Option.some.inj ho
                  have e1 : a'.eval (.tmp 139) = .pointer (some ⟨bl, ol + j * 6, none⟩) := (sv_dst (l := _) rfl).symm.trans (hA.new 4 (by decide) (by kernel_rfl))
                  refine GoesG.value (.pointer (some ⟨bl, ol + j * 6 + 1, none⟩)) rfl ?_ (Below.refl _ _) (fun s h1 h2 => h1 rfl)
                  simp only [execOp, e1]
                  simp [go_sem, m0, m1, c15, x1, x2, hj0, hj1]
                | 6, ho =>
                  obtain rfl := Option.some.inj ho
                  have e1 : a'.eval (.tmp 140) = .pointer (some ⟨bl, ol + j * 6 + 1, none⟩) := (sv_dst (l := _) rfl).symm.trans (hA.new 5 (by decide) (by kernel_rfl))
                  refine GoesG.value (.int .i64 me) rfl ?_ (Below.refl _ _) (fun s h1 h2 => h1 rfl)
                  simp only [execOp, e1]
                  simp [go_sem, m0, m1, c15, x1, x2, hj0, hj1]
                | 7, ho =>
                  obtain rfl := Option.some.inj ho
                  have e1 : a'.eval (.tmp 1) = .slice (some ⟨bl, ol, none⟩) nl c := hA.keep 1 (by kernel_rfl)
                  refine GoesG.value (.slice (some ⟨bl, ol, none⟩) nl c) rfl ?_ (Below.refl _ _) (fun s h1 h2 => h1 rfl)
                  simp only [execOp, e1]
                  simp [go_sem, m0, m1, c15, x1, x2, hj0, hj1]
                | 8, ho =>
                  obtain rfl := Option.some.inj ho
                  have e1 : a'.eval (.tmp 15) = .pointer (some ⟨wr.heap.size, 0, none⟩) := hA.keep 15 (by kernel_rfl)
                  refine GoesG.value (.int .i64 (j : Int)) rfl ?_ (Below.refl _ _) (fun s h1 h2 => h1 rfl)
                  simp only [execOp, e1]
                  simp [go_sem, m0, m1, c15, x1, x2, hj0, hj1]
                | 9, ho =>
                  obtain rfl := Option.some.inj ho
                  have e1 : a'.eval (.tmp 142) = .slice (some ⟨bl, ol, none⟩) nl c := (sv_dst (l := _) rfl).symm.trans (hA.new 7 (by decide) (by kernel_rfl))
                  have e2 : a'.eval (.tmp 143) = .int .i64 (j : Int) := (sv_dst (l := _) rfl).symm.trans (hA.new 8 (by decide) (by kernel_rfl))
                  refine GoesG.value (.pointer (some ⟨bl, ol + j * 6, none⟩)) rfl ?_ (Below.refl _ _) (fun s h1 h2 => h1 rfl)
                  simp only [execOp, e1, e2]
                  simp [go_sem, m0, m1, c15, x1, x2, hj0, hj1]
                | 10, ho =>
                  obtain rfl := Option.some.inj ho
                  have e1 : a'.eval (.tmp 144) = .pointer (some ⟨bl, ol + j * 6, none⟩) := (sv_dst (l := _) rfl).symm.trans (hA.new 9 (by decide) (by kernel_rfl))
                  refine GoesG.value (.pointer (some ⟨bl, ol + j * 6 + 2, none⟩)) rfl ?_ (Below.refl _ _) (fun s h1 h2 => h1 rfl)
                  simp only [execOp, e1]
                  simp [go_sem, m0, m1, c15, x1, x2, hj0, hj1]
                | 11, ho =>
                  obtain rfl := Option.some.inj ho
                  have e1 : a'.eval (.tmp 145) = .pointer (some ⟨bl, ol + j * 6 + 2, none⟩) := (sv_dst (l := _) rfl).symm.trans (hA.new 10 (by decide) (by kernel_rfl))
                  refine GoesG.value (.int .i64 ar) rfl ?_ (Below.refl _ _) (fun s h1 h2 => h1 rfl)
                  simp only [execOp, e1]
                  simp [go_sem, m0, m1, c15, x1, x2, hj0, hj1]
                | 12, ho =>
                  obtain rfl := Option.some.inj ho
                  have e1 : a'.eval (.tmp 135) = .agg #[.int .i64 k, .int .i64 z] := (sv_dst (l := _) rfl).symm.trans (hA.new 0 (by decide) (by kernel_rfl))
                  have e2 : a'.eval (.tmp 136) = .slice ys ls cs := (sv_dst (l := _) rfl).symm.trans (hA.new 1 (by decide) (by kernel_rfl))
                  have e3 : a'.eval (.tmp 141) = .int .i64 me := (sv_dst (l := _) rfl).symm.trans (hA.new 6 (by decide) (by kernel_rfl))
                  have e4 : a'.eval (.tmp 146) = .int .i64 ar := (sv_dst (l := _) rfl).symm.trans (hA.new 11 (by decide) (by kernel_rfl))
                  refine GoesG.call 23 #[.agg #[.int .i64 k, .int .i64 z], .slice ys ls cs, .int .i64 me, .int .i64 ar] rfl ?_ ?_
                  · have en := enters_fn Tryd.func23 (by kernel_rfl) rfl
                    simp [Act.eval] at e1 e2 e3 e4
                    simp [execOp, go_sem, e1, e2, e3, e4, en]
                  · refine (KAX.out W (Ext.trans HE9.out hA.rel)).mono ?_
                    rintro e W2 ⟨v, rfl, h1, h2⟩
                    exact ⟨_, rfl, h2, fun s g1 g2 => ⟨v, g1 rfl, h1.le (HBW2.out W (Ext.trans HE9.out hA.rel))⟩⟩
                | 13, ho =>
                  obtain rfl := Option.some.inj ho
                  obtain ⟨v, e0, h1⟩ := hA.new 12 (by decide) (by kernel_rfl)
                  have e1 : a'.eval (.tmp 147) = .tuple #[v, .int .i64 rs, .int .i64 er] := (sv_dst (l := _) rfl).symm.trans e0
                  refine GoesG.value (.tuple #[v, .int .i64 rs, .int .i64 er]) rfl ?_ (Below.refl _ _) (fun s g1 g2 => ⟨v, g1 rfl, h1⟩)
                  simp only [execOp, e1]
                  simp [go_sem]
                | 14, ho =>
                  obtain rfl := Option.some.inj ho
                  obtain ⟨v, e0, h1⟩ := hA.new 13 (by decide) (by kernel_rfl)
                  have e1 : a'.eval (.tmp 134) = .tuple #[v, .int .i64 rs, .int .i64 er] := (sv_dst (l := _) rfl).symm.trans e0
                  refine GoesG.value (v) rfl ?_ (Below.refl _ _) (fun s g1 g2 => (by rw [g1 rfl]; exact h1))
                  simp only [execOp, e1]
                  simp [go_sem]
                | 15, ho =>
                  obtain rfl := Option.some.inj ho
                  obtain ⟨v, e0, h1⟩ := hA.new 13 (by decide) (by kernel_rfl)
                  have e1 : a'.eval (.tmp 134) = .tuple #[v, .int .i64 rs, .int .i64 er] := (sv_dst (l := _) rfl).symm.trans e0
                  refine GoesG.value (.int .i64 rs) rfl ?_ (Below.refl _ _) (fun s g1 g2 => g1 rfl)
                  simp only [execOp, e1]
                  simp [go_sem]
                | 16, ho =>
                  obtain rfl := Option.some.inj ho
                  obtain ⟨v, e0, h1⟩ := hA.new 13 (by decide) (by kernel_rfl)
                  have e1 : a'.eval (.tmp 134) = .tuple #[v, .int .i64 rs, .int .i64 er] := (sv_dst (l := _) rfl).symm.trans e0
                  refine GoesG.value (.int .i64 er) rfl ?_ (Below.refl _ _) (fun s g1 g2 => g1 rfl)
                  simp only [execOp, e1]
                  simp [go_sem]
                | 17, ho =>
                  obtain rfl := Option.some.inj ho
                  have h1 : RowI w.heap.size (sv _ a' 14) Z1 W := hA.new 14 (by decide) (by kernel_rfl)
                  rw [sv_dst (l := _) (d := 148) rfl] at h1
                  refine GoesG.value (a'.eval (.tmp 148)) rfl ?_ (Below.refl _ _) (fun s g1 g2 => ?_)
                  · simp [execOp, go_sem]
                  · rw [g1 rfl]; exact h1
                | 18, ho =>
                  obtain rfl := Option.some.inj ho
                  have e1 : a'.eval (.tmp 149) = .int .i64 rs := (sv_dst (l := _) rfl).symm.trans (hA.new 15 (by decide) (by kernel_rfl))
                  refine GoesG.value (.int .i64 rs) rfl ?_ (Below.refl _ _) (fun s h1 h2 => h1 rfl)
                  simp only [execOp, e1]
                  simp [go_sem, m0, m1, c15, x1, x2, hj0, hj1]
                | i + 19, ho => cases ho
              · intro vs w4 hvs hG hΦ
                obtain ⟨y0, y1, y2, y3, y4, y5, y6, y7, y8, y9, y10, y11, y12, y13, y14, y15, y16, y17, y18, rfl⟩ : ∃ y0 y1 y2 y3 y4 y5 y6 y7 y8 y9 y10 y11 y12 y13 y14 y15 y16 y17 y18, vs = y0 :: y1 :: y2 :: y3 :: y4 :: y5 :: y6 :: y7 :: y8 :: y9 :: y10 :: y11 :: y12 :: y13 :: y14 :: y15 :: y16 :: y17 :: y18 :: [] := by
                  match vs, hvs with
                  | y0 :: y1 :: y2 :: y3 :: y4 :: y5 :: y6 :: y7 :: y8 :: y9 :: y10 :: y11 :: y12 :: y13 :: y14 :: y15 :: y16 :: y17 :: y18 :: [], _ => exact ⟨y0, y1, y2, y3, y4, y5, y6, y7, y8, y9, y10, y11, y12, y13, y14, y15, y16, y17, y18, rfl⟩
                have e0 : y0 = .agg #[.int .i64 k, .int .i64 z] := hΦ 0 (by decide)
                subst e0
                have e1 : y1 = .slice ys ls cs := hΦ 1 (by decide)
                subst e1
                have e2 : y2 = .slice (some ⟨bl, ol, none⟩) nl c := hΦ 2 (by decide)
                subst e2
                have e3 : y3 = .int .i64 (j : Int) := hΦ 3 (by decide)
                subst e3
                have e4 : y4 = .pointer (some ⟨bl, ol + j * 6, none⟩) := hΦ 4 (by decide)
                subst e4
                have e5 : y5 = .pointer (some ⟨bl, ol + j * 6 + 1, none⟩) := hΦ 5 (by decide)
                subst e5
                have e6 : y6 = .int .i64 me := hΦ 6 (by decide)
                subst e6
                have e7 : y7 = .slice (some ⟨bl, ol, none⟩) nl c := hΦ 7 (by decide)
                subst e7
                have e8 : y8 = .int .i64 (j : Int) := hΦ 8 (by decide)
                subst e8
                have e9 : y9 = .pointer (some ⟨bl, ol + j * 6, none⟩) := hΦ 9 (by decide)
                subst e9
                have e10 : y10 = .pointer (some ⟨bl, ol + j * 6 + 2, none⟩) := hΦ 10 (by decide)
                subst e10
                have e11 : y11 = .int .i64 ar := hΦ 11 (by decide)
                subst e11
                have p12 : ∃ v, y12 = .tuple #[v, .int .i64 rs, .int .i64 er] ∧ RowI w.heap.size v Z1 w4 := hΦ 12 (by decide)
                have p13 : ∃ v, y13 = .tuple #[v, .int .i64 rs, .int .i64 er] ∧ RowI w.heap.size v Z1 w4 := hΦ 13 (by decide)
                have p14 : RowI w.heap.size (y14) Z1 w4 := hΦ 14 (by decide)
                have e15 : y15 = .int .i64 rs := hΦ 15 (by decide)
                subst e15
                have e16 : y16 = .int .i64 er := hΦ 16 (by decide)
                subst e16
                have p17 : RowI w.heap.size (y17) Z1 w4 := hΦ 17 (by decide)
                have e18 : y18 = .int .i64 rs := hΦ 18 (by decide)
                subst e18
                clear hΦ hvs
                simp only [putAll, Act.put, List.setIfInBounds_toArray, List.set_cons_succ, List.set_cons_zero]
                have HEB := Lib.hid (Ext.trans HE9.out (show Ext w9 w4 from hG))
                clear p12 p13 p14 p17 hG m0 m1 c15 x0 x1 x2 x3 x4 x5
                have c14 := HC14.out w4 (Ext.trans HO1.out HEB.out)
                have c5 := HP5.out w4 (Ext.trans H71.out HEB.out)
                have c15 := HC15.out w4 HEB.out
                obtain ⟨x0, x1, x2, x3, x4, x5⟩ := HCL2.out w4 HEB.out
                rcases hcase with g7 | ⟨g7, g8⟩ | ⟨g7, g8, g9, g10⟩
                all_goals
                  subst g7
                  go_wp2
                  exact ⟨⟨j + 1, by omega, by go_num, by rw [HSI.out]; exact HRWx.out.ext (Ext.trans HXW.out HEB.out), Ext.trans HO1.out HEB.out⟩, by simp [intOf]; omega⟩
          · have hil2 : i < lp := by omega
            have hilp : i < part.length := by rw [HLP.out]; exact hil2
            have d2 : decide ((i : Int) < (lp : Int)) = true := by simp; omega
            have d2n : decide (i < lp) = true := by simp; omega
            have d3 : ((i : Int) == (lp : Int)) = false := by simp; omega
            have d3n : (i == lp) = false := by simp; omega
            obtain ⟨b3, of3, ha3, -⟩ := HI3.out i (by rw [HLPM.out]; exact hil2)
            subst ha3
            have HPI := Lib.hid (fun W (hW : Ext w1 W) => show W.cell? ⟨b3, of3 + i, none⟩ = some (.int .i64 ((part[i] : Nat) : Int)) from by
              obtain ⟨b', o', e', hc'⟩ := (HI3.out.ext (Ext.trans HX35.out (Ext.trans HX57.out (Ext.trans H71.out hW)))) i (by rw [HLPM.out]; exact hil2)
              cases e'
              rw [hc']; simp)
            have cpi := HPI.out w1 (Below.refl _ _)
            have hi2 : (i : Int) < (lp : Int) := by omega
            by_cases hq : part[i] = j
            · have hst := stI_at (nd := nd) hilp hq
              have HSI := Lib.hid hst.2
              obtain ⟨hsub, rs, hap, hres⟩ := HXX.out.yesAt HMM.out i hilp hjl hq
              rw [hq] at cpi
              have HRW2 := HRW.out
              rw [hst.1] at HRW2
              obtain ⟨ys, cs, hvs, hi8, hc8, -⟩ := HRW2.look
              have HI8 := Lib.hid hi8
              have HC8 := Lib.hid hc8
              clear hi8 hc8 HRW2 hst hq
              subst hvs
              have KAX := Lib.hid (fun W (hW : Ext w1 W) => show Calls Tryd.prog 23 #[.agg #[.int .i64 k, .int .i64 z], .slice ys ((nd i).2).length cs, .int .i64 l[j].meth, .int .i64 l[j].arg] W (AyP W ((nd (i + 1)).2, rs, 0)) from by
                have := KAp.out W hW ys cs l[j].meth l[j].arg (HI8.out.ext (Ext.trans HXW.out hW)) HC8.out
                rw [hap] at this
                exact this)
              have KE2 := Lib.hid (fun W (hW : Ext w1 W) => show Gives Tryd.prog 29 #[.slice xb le cb, .func (.func 30) #[] #[.pointer (some ⟨wr.heap.size, 0, none⟩), .pointer (some ⟨w3.heap.size, 0, none⟩), .pointer (some ⟨bi, 0, none⟩)]] W (.bool false) from by
                have := KE.out W hW
                rw [hsub] at this
                exact this)
              have HCL2 := Lib.hid HCL.out
              unfold Cl.cells at HCL2
              unfold AyP at KAX
              have hcase : ((l[j].en == -1) = true) ∨ ((l[j].en == -1) = false ∧ (rs == l[j].res) = true) := by
                rcases hres with h | h
                · exact .inl (by simpa using h)
                · by_cases he : l[j].en = -1
                  · exact .inl (by simpa using he)
                  · exact .inr ⟨by simpa using he, by simpa using h⟩
              generalize ((nd i).2).length = ls at *
              generalize (nd (i + 1)).2 = Z1 at *
              generalize l[j] = x at *
              obtain ⟨tk, me, ar, re, be, en⟩ := x
              dsimp only at KAX HCL2 hcase
              clear HCL KAp KE hsub hap hres
              go_wp2_with fail
              try rw [hw1']
              refine wp_region_still_tail 20 (by kernel_rfl) (by kernel_rfl) ?_
              simp only [List.take_succ_cons, List.take_zero, List.drop_succ_cons, List.drop_zero]
              refine Bx.out ?_
              iterate 20 (refine wpStill_stepH (fun K hK => ?_); go_simp; refine hK _ ?_; clear hK K)
              refine ⟨wpStill_nil ?_⟩
              go_wp2_with fail
              have HE8 := Lib.hid (show Ext w1 w1.drew from Ext.drewN' (n := 1) (Below.refl _ _))
              clear c14 c5 c15 cpi
              refine (KE2.out _ HE8.out).mono ?_
              intro w9 hE9
              have HE9 := Lib.hid (Ext.trans HE8.out hE9)
              clear hE9
              obtain ⟨m0, m1⟩ := HMW.out w9 HE9.out
              have c15 := HC15.out w9 HE9.out
              obtain ⟨x0, x1, x2, x3, x4, x5⟩ := HCL2.out w9 HE9.out
              go_wp2_with fail
              refine wp_region_tail (l1 := [_, _, _, _, _, _, _, _, _, _, _, _, _, _, _, _, _, _, _]) (l2 := [_]) (by kernel_rfl) Ext (fun W => Below.refl _ W) (fun W => show Below W.heap.size W { W with drawn := W.drawn + 1 } from ⟨rfl, rfl, rfl, Nat.le_refl _, fun _ _ => rfl⟩) Ext.trans
                (fun i s W => match i with
                  | 0 => s 0 = .agg #[.int .i64 k, .int .i64 z]
                  | 1 => s 1 = .slice ys ls cs
                  | 2 => s 2 = .slice (some ⟨bl, ol, none⟩) nl c
                  | 3 => s 3 = .int .i64 (j : Int)
                  | 4 => s 4 = .pointer (some ⟨bl, ol + j * 6, none⟩)
                  | 5 => s 5 = .pointer (some ⟨bl, ol + j * 6 + 1, none⟩)
                  | 6 => s 6 = .int .i64 me
                  | 7 => s 7 = .slice (some ⟨bl, ol, none⟩) nl c
                  | 8 => s 8 = .int .i64 (j : Int)
                  | 9 => s 9 = .pointer (some ⟨bl, ol + j * 6, none⟩)
                  | 10 => s 10 = .pointer (some ⟨bl, ol + j * 6 + 2, none⟩)
                  | 11 => s 11 = .int .i64 ar
                  | 12 => ∃ v, s 12 = .tuple #[v, .int .i64 rs, .int .i64 0] ∧ RowI w.heap.size v Z1 W
                  | 13 => ∃ v, s 13 = .tuple #[v, .int .i64 rs, .int .i64 0] ∧ RowI w.heap.size v Z1 W
                  | 14 => RowI w.heap.size (s 14) Z1 W
                  | 15 => s 15 = .int .i64 rs
                  | 16 => s 16 = .int .i64 0
                  | 17 => RowI w.heap.size (s 17) Z1 W
                  | 18 => s 18 = .int .i64 rs
                  | _ => True)
                (fun i => [i])
                (by
                  intro i s s' W W' h hs hE
                  have hs := hs i (by simp)
                  match i, h, hs with
                  | 0, h, hs => exact hs.trans h
                  | 1, h, hs => exact hs.trans h
                  | 2, h, hs => exact hs.trans h
                  | 3, h, hs => exact hs.trans h
                  | 4, h, hs => exact hs.trans h
                  | 5, h, hs => exact hs.trans h
                  | 6, h, hs => exact hs.trans h
                  | 7, h, hs => exact hs.trans h
                  | 8, h, hs => exact hs.trans h
                  | 9, h, hs => exact hs.trans h
                  | 10, h, hs => exact hs.trans h
                  | 11, h, hs => exact hs.trans h
                  | 12, ⟨v, h, h1⟩, hs => exact ⟨v, hs.trans h, h1.ext hE⟩
                  | 13, ⟨v, h, h1⟩, hs => exact ⟨v, hs.trans h, h1.ext hE⟩
                  | 14, h, hs => exact (by rw [hs]; exact RowI.ext h hE)
                  | 15, h, hs => exact hs.trans h
                  | 16, h, hs => exact hs.trans h
                  | 17, h, hs => exact (by rw [hs]; exact RowI.ext h hE)
                  | 18, h, hs => exact hs.trans h
                  | i + 19, h, hs => exact trivial)
                (by kernel_rfl) (by kernel_rfl) (by kernel_rfl) 187 rfl (by kernel_rfl) (by kernel_rfl) ?_ ?_
              · intro i op ho a' W hA
                obtain ⟨m0, m1⟩ := HMW.out W (Ext.trans HE9.out hA.rel)
                have c15 := HC15.out W (Ext.trans HE9.out hA.rel)
                obtain ⟨x0, x1, x2, x3, x4, x5⟩ := HCL2.out W (Ext.trans HE9.out hA.rel)
                match i, ho with
                | 0, ho =>
                  obtain rfl := Option.some.inj ho
                  have e1 : a'.eval (.tmp 2) = .pointer (some ⟨w.heap.size, 0, none⟩) := hA.keep 2 (by kernel_rfl)
                  refine GoesG.value (.agg #[.int .i64 k, .int .i64 z]) rfl ?_ (Below.refl _ _) (fun s h1 h2 => h1 rfl)
                  simp only [execOp, e1]
                  simp [go_sem, m0, m1, c15, x1, x2, hj0, hj1]
                | 1, ho =>
                  obtain rfl := Option.some.inj ho
                  have e1 : a'.eval (.tmp 13) = .slice ys ls cs := hA.keep 13 (by kernel_rfl)
                  refine GoesG.value (.slice ys ls cs) rfl ?_ (Below.refl _ _) (fun s h1 h2 => h1 rfl)
                  simp only [execOp, e1]
                  simp [go_sem, m0, m1, c15, x1, x2, hj0, hj1]
                | 2, ho =>
                  obtain rfl := Option.some.inj ho
                  have e1 : a'.eval (.tmp 1) = .slice (some ⟨bl, ol, none⟩) nl c := hA.keep 1 (by kernel_rfl)
                  refine GoesG.value (.slice (some ⟨bl, ol, none⟩) nl c) rfl ?_ (Below.refl _ _) (fun s h1 h2 => h1 rfl)
                  simp only [execOp, e1]
                  simp [go_sem, m0, m1, c15, x1, x2, hj0, hj1]
                | 3, ho =>
                  obtain rfl := Option.some.inj ho
                  have e1 : a'.eval (.tmp 15) = .pointer (some ⟨wr.heap.size, 0, none⟩) := hA.keep 15 (by kernel_rfl)
                  refine GoesG.value (.int .i64 (j : Int)) rfl ?_ (Below.refl _ _) (fun s h1 h2 => h1 rfl)
                  simp only [execOp, e1]
                  simp [go_sem, m0, m1, c15, x1, x2, hj0, hj1]
                | 4, ho =>
                  obtain rfl := Option.some.inj ho
                  have e1 : a'.eval (.tmp 137) = .slice (some ⟨bl, ol, none⟩) nl c := (sv_dst (l := _) rfl).symm.trans (hA.new 2 (by decide) (by kernel_rfl))
                  have e2 : a'.eval (.tmp 138) = .int .i64 (j : Int) := (sv_dst (l := _) rfl).symm.trans (hA.new 3 (by decide) (by kernel_rfl))
                  refine GoesG.value (.pointer (some ⟨bl, ol + j * 6, none⟩)) rfl ?_ (Below.refl _ _) (fun s h1 h2 => h1 rfl)
                  simp only [execOp, e1, e2]
                  simp [go_sem, m0, m1, c15, x1, x2, hj0, hj1]
                | 5, ho =>
                  obtain rfl := Option.some.inj ho
                  have e1 : a'.eval (.tmp 139) = .pointer (some ⟨bl, ol + j * 6, none⟩) := (sv_dst (l := _) rfl).symm.trans (hA.new 4 (by decide) (by kernel_rfl))
                  refine GoesG.value (.pointer (some ⟨bl, ol + j * 6 + 1, none⟩)) rfl ?_ (Below.refl _ _) (fun s h1 h2 => h1 rfl)
                  simp only [execOp, e1]
                  simp [go_sem, m0, m1, c15, x1, x2, hj0, hj1]
                | 6, ho =>
                  obtain rfl := Option.some.inj ho
                  have e1 : a'.eval (.tmp 140) = .pointer (some ⟨bl, ol + j * 6 + 1, none⟩) := (sv_dst (l := _) rfl).symm.trans (hA.new 5 (by decide) (by kernel_rfl))
                  refine GoesG.value (.int .i64 me) rfl ?_ (Below.refl _ _) (fun s h1 h2 => h1 rfl)
                  simp only [execOp, e1]
                  simp [go_sem, m0, m1, c15, x1, x2, hj0, hj1]
                | 7, ho =>
                  obtain rfl := Option.some.inj ho
                  have e1 : a'.eval (.tmp 1) = .slice (some ⟨bl, ol, none⟩) nl c := hA.keep 1 (by kernel_rfl)
                  refine GoesG.value (.slice (some ⟨bl, ol, none⟩) nl c) rfl ?_ (Below.refl _ _) (fun s h1 h2 => h1 rfl)
                  simp only [execOp, e1]
                  simp [go_sem, m0, m1, c15, x1, x2, hj0, hj1]
                | 8, ho =>
                  obtain rfl := Option.some.inj ho
                  have e1 : a'.eval (.tmp 15) = .pointer (some ⟨wr.heap.size, 0, none⟩) := hA.keep 15 (by kernel_rfl)
                  refine GoesG.value (.int .i64 (j : Int)) rfl ?_ (Below.refl _ _) (fun s h1 h2 => h1 rfl)
                  simp only [execOp, e1]
                  simp [go_sem, m0, m1, c15, x1, x2, hj0, hj1]
                | 9, ho =>
                  obtain rfl := Option.some.inj ho
                  have e1 : a'.eval (.tmp 142) = .slice (some ⟨bl, ol, none⟩) nl c := (sv_dst (l := _) rfl).symm.trans (hA.new 7 (by decide) (by kernel_rfl))
                  have e2 : a'.eval (.tmp 143) = .int .i64 (j : Int) := (sv_dst (l := _) rfl).symm.trans (hA.new 8 (by decide) (by kernel_rfl))
                  refine GoesG.value (.pointer (some ⟨bl, ol + j * 6, none⟩)) rfl ?_ (Below.refl _ _) (fun s h1 h2 => h1 rfl)
                  simp only [execOp, e1, e2]
                  simp [go_sem, m0, m1, c15, x1, x2, hj0, hj1]
                | 10, ho =>
                  obtain rfl := Option.some.inj ho
                  have e1 : a'.eval (.tmp 144) = .pointer (some ⟨bl, ol + j * 6, none⟩) := (sv_dst (l := _) rfl).symm.trans (hA.new 9 (by decide) (by kernel_rfl))
                  refine GoesG.value (.pointer (some ⟨bl, ol + j * 6 + 2, none⟩)) rfl ?_ (Below.refl _ _) (fun s h1 h2 => h1 rfl)
                  simp only [execOp, e1]
                  simp [go_sem, m0, m1, c15, x1, x2, hj0, hj1]
                | 11, ho =>
                  obtain rfl := Option.some.inj ho
                  have e1 : a'.eval (.tmp 145) = .pointer (some ⟨bl, ol + j * 6 + 2, none⟩) := (sv_dst (l := _) rfl).symm.trans (hA.new 10 (by decide) (by kernel_rfl))
                  refine GoesG.value (.int .i64 ar) rfl ?_ (Below.refl _ _) (fun s h1 h2 => h1 rfl)
                  simp only [execOp, e1]
                  simp [go_sem, m0, m1, c15, x1, x2, hj0, hj1]
                | 12, ho =>
                  obtain rfl := Option.some.inj ho
                  have e1 : a'.eval (.tmp 135) = .agg #[.int .i64 k, .int .i64 z] := (sv_dst (l := _) rfl).symm.trans (hA.new 0 (by decide) (by kernel_rfl))
                  have e2 : a'.eval (.tmp 136) = .slice ys ls cs := (sv_dst (l := _) rfl).symm.trans (hA.new 1 (by decide) (by kernel_rfl))
                  have e3 : a'.eval (.tmp 141) = .int .i64 me := (sv_dst (l := _) rfl).symm.trans (hA.new 6 (by decide) (by kernel_rfl))
                  have e4 : a'.eval (.tmp 146) = .int .i64 ar := (sv_dst (l := _) rfl).symm.trans (hA.new 11 (by decide) (by kernel_rfl))
                  refine GoesG.call 23 #[.agg #[.int .i64 k, .int .i64 z], .slice ys ls cs, .int .i64 me, .int .i64 ar] rfl ?_ ?_
                  · have en := enters_fn Tryd.func23 (by kernel_rfl) rfl
                    simp [Act.eval] at e1 e2 e3 e4
                    simp [execOp, go_sem, e1, e2, e3, e4, en]
                  · refine (KAX.out W (Ext.trans HE9.out hA.rel)).mono ?_
                    rintro e W2 ⟨v, rfl, h1, h2⟩
                    exact ⟨_, rfl, h2, fun s g1 g2 => ⟨v, g1 rfl, h1.le (HBW2.out W (Ext.trans HE9.out hA.rel))⟩⟩
                | 13, ho =>
                  obtain rfl := Option.some.inj ho
                  obtain ⟨v, e0, h1⟩ := hA.new 12 (by decide) (by kernel_rfl)
                  have e1 : a'.eval (.tmp 147) = .tuple #[v, .int .i64 rs, .int .i64 0] := (sv_dst (l := _) rfl).symm.trans e0
                  refine GoesG.value (.tuple #[v, .int .i64 rs, .int .i64 0]) rfl ?_ (Below.refl _ _) (fun s g1 g2 => ⟨v, g1 rfl, h1⟩)
                  simp only [execOp, e1]
                  simp [go_sem]
                | 14, ho =>
                  obtain rfl := Option.some.inj ho
                  obtain ⟨v, e0, h1⟩ := hA.new 13 (by decide) (by kernel_rfl)
                  have e1 : a'.eval (.tmp 134) = .tuple #[v, .int .i64 rs, .int .i64 0] := (sv_dst (l := _) rfl).symm.trans e0
                  refine GoesG.value (v) rfl ?_ (Below.refl _ _) (fun s g1 g2 => (by rw [g1 rfl]; exact h1))
                  simp only [execOp, e1]
                  simp [go_sem]
                | 15, ho =>
                  obtain rfl := Option.some.inj ho
                  obtain ⟨v, e0, h1⟩ := hA.new 13 (by decide) (by kernel_rfl)
                  have e1 : a'.eval (.tmp 134) = .tuple #[v, .int .i64 rs, .int .i64 0] := (sv_dst (l := _) rfl).symm.trans e0
                  refine GoesG.value (.int .i64 rs) rfl ?_ (Below.refl _ _) (fun s g1 g2 => g1 rfl)
                  simp only [execOp, e1]
                  simp [go_sem]
                | 16, ho =>
                  obtain rfl := Option.some.inj ho
                  obtain ⟨v, e0, h1⟩ := hA.new 13 (by decide) (by kernel_rfl)
                  have e1 : a'.eval (.tmp 134) = .tuple #[v, .int .i64 rs, .int .i64 0] := (sv_dst (l := _) rfl).symm.trans e0
                  refine GoesG.value (.int .i64 0) rfl ?_ (Below.refl _ _) (fun s g1 g2 => g1 rfl)
                  simp only [execOp, e1]
                  simp [go_sem]
                | 17, ho =>
                  obtain rfl := Option.some.inj ho
                  have h1 : RowI w.heap.size (sv _ a' 14) Z1 W := hA.new 14 (by decide) (by kernel_rfl)
                  rw [sv_dst (l := _) (d := 148) rfl] at h1
                  refine GoesG.value (a'.eval (.tmp 148)) rfl ?_ (Below.refl _ _) (fun s g1 g2 => ?_)
                  · simp [execOp, go_sem]
                  · rw [g1 rfl]; exact h1
                | 18, ho =>
                  obtain rfl := Option.some.inj ho
                  have e1 : a'.eval (.tmp 149) = .int .i64 rs := (sv_dst (l := _) rfl).symm.trans (hA.new 15 (by decide) (by kernel_rfl))
                  refine GoesG.value (.int .i64 rs) rfl ?_ (Below.refl _ _) (fun s h1 h2 => h1 rfl)
                  simp only [execOp, e1]
                  simp [go_sem, m0, m1, c15, x1, x2, hj0, hj1]
                | i + 19, ho => cases ho
              · intro vs w4 hvs hG hΦ
                obtain ⟨y0, y1, y2, y3, y4, y5, y6, y7, y8, y9, y10, y11, y12, y13, y14, y15, y16, y17, y18, rfl⟩ : ∃ y0 y1 y2 y3 y4 y5 y6 y7 y8 y9 y10 y11 y12 y13 y14 y15 y16 y17 y18, vs = y0 :: y1 :: y2 :: y3 :: y4 :: y5 :: y6 :: y7 :: y8 :: y9 :: y10 :: y11 :: y12 :: y13 :: y14 :: y15 :: y16 :: y17 :: y18 :: [] := by
                  match vs, hvs with
                  | y0 :: y1 :: y2 :: y3 :: y4 :: y5 :: y6 :: y7 :: y8 :: y9 :: y10 :: y11 :: y12 :: y13 :: y14 :: y15 :: y16 :: y17 :: y18 :: [], _ => exact ⟨y0, y1, y2, y3, y4, y5, y6, y7, y8, y9, y10, y11, y12, y13, y14, y15, y16, y17, y18, rfl⟩
                have e0 : y0 = .agg #[.int .i64 k, .int .i64 z] := hΦ 0 (by decide)
                subst e0
                have e1 : y1 = .slice ys ls cs := hΦ 1 (by decide)
                subst e1
                have e2 : y2 = .slice (some ⟨bl, ol, none⟩) nl c := hΦ 2 (by decide)
                subst e2
                have e3 : y3 = .int .i64 (j : Int) := hΦ 3 (by decide)
                subst e3
                have e4 : y4 = .pointer (some ⟨bl, ol + j * 6, none⟩) := hΦ 4 (by decide)
                subst e4
                have e5 : y5 = .pointer (some ⟨bl, ol + j * 6 + 1, none⟩) := hΦ 5 (by decide)
                subst e5
                have e6 : y6 = .int .i64 me := hΦ 6 (by decide)
                subst e6
                have e7 : y7 = .slice (some ⟨bl, ol, none⟩) nl c := hΦ 7 (by decide)
                subst e7
                have e8 : y8 = .int .i64 (j : Int) := hΦ 8 (by decide)
                subst e8
                have e9 : y9 = .pointer (some ⟨bl, ol + j * 6, none⟩) := hΦ 9 (by decide)
                subst e9
                have e10 : y10 = .pointer (some ⟨bl, ol + j * 6 + 2, none⟩) := hΦ 10 (by decide)
                subst e10
                have e11 : y11 = .int .i64 ar := hΦ 11 (by decide)
                subst e11
                have p12 : ∃ v, y12 = .tuple #[v, .int .i64 rs, .int .i64 0] ∧ RowI w.heap.size v Z1 w4 := hΦ 12 (by decide)
                have p13 : ∃ v, y13 = .tuple #[v, .int .i64 rs, .int .i64 0] ∧ RowI w.heap.size v Z1 w4 := hΦ 13 (by decide)
                have p14 : RowI w.heap.size (y14) Z1 w4 := hΦ 14 (by decide)
                have e15 : y15 = .int .i64 rs := hΦ 15 (by decide)
                subst e15
                have e16 : y16 = .int .i64 0 := hΦ 16 (by decide)
                subst e16
                have p17 : RowI w.heap.size (y17) Z1 w4 := hΦ 17 (by decide)
                have e18 : y18 = .int .i64 rs := hΦ 18 (by decide)
                subst e18
                clear hΦ hvs
                simp only [putAll, Act.put, List.setIfInBounds_toArray, List.set_cons_succ, List.set_cons_zero]
                have HEB := Lib.hid (Ext.trans HE9.out (show Ext w9 w4 from hG))
                have HRZ := Lib.hid (show RowI w.heap.size y17 Z1 w4 from p17)
                clear p12 p13 p14 p17 hG m0 m1 c15 x0 x1 x2 x3 x4 x5
                have c14 := HC14.out w4 (Ext.trans HO1.out HEB.out)
                have c5 := HP5.out w4 (Ext.trans H71.out HEB.out)
                have c15 := HC15.out w4 HEB.out
                obtain ⟨x0, x1, x2, x3, x4, x5⟩ := HCL2.out w4 HEB.out
                rcases hcase with g8 | ⟨g8, g9⟩
                all_goals
                  go_wp2
                  exact ⟨⟨j + 1, by omega, by go_num, by rw [HSI.out]; exact HRZ.out, Ext.trans HO1.out HEB.out⟩, by simp [intOf]; omega⟩
            · have HSI := Lib.hid (show stI part nd i (j + 1) = stI part nd i j from stI_skip (fun hi => hq))
              have g1 : ((j : Int) != ((part[i] : Nat) : Int)) = true := by rw [bne_iff_ne]; omega
              have g2 : (j != part[i]) = true := by rw [bne_iff_ne]; omega
              generalize part[i] = q at *
              clear hq
              go_wp2_with fail
              try rw [hw1']
              refine wp_region_still_tail 20 (by kernel_rfl) (by kernel_rfl) ?_
              simp only [List.take_succ_cons, List.take_zero, List.drop_succ_cons, List.drop_zero]
              refine Bx.out ?_
              iterate 20 (refine wpStill_stepH (fun K hK => ?_); go_simp; refine hK _ ?_; clear hK K)
              refine ⟨wpStill_nil ?_⟩
              go_wp2
              exact ⟨⟨j + 1, by omega, by go_num, by rw [HSI.out]; exact HRW.out.ext (Ext.trans HXW.out (show Ext w1 w1.drew from Ext.drewN' (n := 1) (Below.refl _ _))), Ext.trans HO1.out (show Ext w1 w1.drew from Ext.drewN' (n := 1) (Below.refl _ _))⟩, by simp [intOf]; omega⟩
        · have hje : nl = j := by omega
          subst hje
          have c14 := HC14.out wr HEI.out
          go_wp2_with fail
          have HRE := HRW.out
          rw [show stI part nd i nl = (nd (min (i + 1) lp)).2 from by
            by_cases hil2 : i < lp
            · rw [← HNL.out, HXX.out.last (by rw [HLP.out]; exact hil2), Nat.min_eq_left (by omega)]
            · obtain rfl : lp = i := by omega
              have := stI_end (part := part) (nd := nd) (j := nl)
              rw [HLP.out] at this
              rw [this, Nat.min_eq_right (by omega)]] at HRE
          have HRE := Lib.hid HRE
          go_roundg (lp - i)
          exact ⟨i + 1, wr.heap.size, by omega, rfl, (Ext.trans HER.out HEI.out).size, (by rw [show ((i + 1 : Nat) : Int) = (i : Int) + 1 by omega]; exact alloc_here _ _), HRE.out.ext (ext_allocN _ _), Ext.trans HER.out (Ext.trans HEI.out (ext_allocN _ _))⟩
          have := HNI.out
          omega
    · have d1 : decide ((i : Int) ≤ (lp : Int)) = false := by simp; omega
      go_wp2_with fail
      refine (KA.out _ (Ext.trans HE7.out HER.out)).mono ?_
      intro w8 hE8
      have HE8 := Lib.hid (Ext.trans HE7.out (Ext.trans HER.out hE8))
      clear hE8
      go_wp2
      go_ret
      exact ⟨rfl, HE8.out⟩
set_option maxRecDepth 100000 in
set_option maxHeartbeats 4000000 in
theorem linearizeExplains_walk (k z : Int) (l : List Cl) (a : Option Addr) (c : Nat) (w : World) (hO : OpIn w a c l) (hT : TabW w) :
    Gives Tryd.prog 9 #[.agg #[.int .i64 k, .int .i64 z], .slice a l.length c] w (.bool true) := by
  by_cases hdo : grH l.length = false ∧ srE k z l = 0 ∧ (srhR k z l).2.1 = false
  · exact explains3 k z l a c w hO hT hdo.1 hdo.2.1 hdo.2.2
  obtain ⟨hHs, hlc, hlm, -⟩ := hO
  unfold Gives
  have KA := Lib.hid (fun W (hW : Ext w W) => awake_any W (hT.below hW.below))
  have HX1 := Lib.hid (ext_allocN w (.cells #[.int .i64 k, .int .i64 z] 23))
  have HMD := Lib.hid (mdCells w k z)
  have KX := Lib.hid (fun W (hW : Ext w W) => Explain_any k z l a c W (hHs.ext hW) hlm (hT.below hW.below))
  have KS := Lib.hid (fun W (hW : Ext w W) => Search_any k z l a c W (hHs.ext hW) hlm (hT.below hW.below))
  have KG := Lib.hid (fun W => great_any l.length a c W)
  cases hg : grH l.length with
  | true =>
    rw [hg] at KG
    clear hlc hlm hHs hT KX KS hdo
    generalize l.length = len at *
    go_enter Tryd.func9, Tryd.ntmps9
    go_wp2_with fail
    refine (KG.out _).mono ?_
    intro w2 hE2
    have HE2 := Lib.hid (Ext.trans HX1.out hE2)
    clear hE2
    go_wp2_with fail
    refine (KA.out _ HE2.out).mono ?_
    intro w3 hE3
    have HE3 := Lib.hid (Ext.trans HE2.out hE3)
    clear hE3
    go_wp2
    go_ret
    exact ⟨rfl, HE3.out⟩
  | false =>
    rw [hg] at KG
    by_cases he : srE k z l = 0
    · have hy : (srhR k z l).2.1 = true := by
        cases h : (srhR k z l).2.1 with
        | true => rfl
        | false => exact absurd ⟨hg, he, h⟩ hdo
      obtain ⟨hx1, hx2⟩ := xpl_yes he hy
      have HSL := Lib.hid (srh_len (k := k) (z := z) (l := l))
      have HL40 := Lib.hid (grH_leF hg)
      rw [hx1] at KX
      have HS := Lib.hid (show srhR k z l = ((srhR k z l).1, true, 0) from Prod.ext rfl (Prod.ext hy hx2))
      unfold XpP at KX
      unfold ShP at KS
      rw [hx2, hy] at KS
      clear hg he hy hx1 hx2 hdo hHs hlm hT HS
      generalize (srhR k z l).1 = s1 at *
      obtain ⟨n, hn⟩ : ∃ n, (s1.map Int.ofNat).length = n := ⟨_, rfl⟩
      have HN := Lib.hid hn
      have HN40 := Lib.hid (show n ≤ 40 by rw [← HN.out, List.length_map]; exact Nat.le_trans HSL.out HL40.out)
      clear hn
      dsimp only at KX
      generalize s1.map Int.ofNat = m at *
      generalize l.length = len at *
      go_enter Tryd.func9, Tryd.ntmps9
      go_wp2_with fail
      refine (KG.out _).mono ?_
      intro w2 hE2
      have HX2 := Lib.hid hE2
      have HE2 := Lib.hid (Ext.trans HX1.out hE2)
      clear hE2
      obtain ⟨m0, m1⟩ := HMD.out w2 HX2.out
      go_wp2_with fail
      refine (KX.out _ HE2.out).mono ?_
      rintro e w3 ⟨v3, rfl, hr3, hE3⟩
      obtain ⟨a3, c3, hv3, hi3, hc3, -⟩ := hr3.look
      rw [HN.out] at hv3
      subst hv3
      have HI3 := Lib.hid hi3
      have HE3 := Lib.hid (Ext.trans HE2.out hE3)
      have HX3 := Lib.hid (Ext.trans HX2.out hE3)
      clear hE3 hr3 hi3 hc3 m0 m1
      have HXP := Lib.hid (ext_allocN w3 (.cells #[.slice a3 n c3] 27))
      have HBP := Lib.hid (alloc_here w3 (.cells #[.slice a3 n c3] 27))
      obtain ⟨m0, m1⟩ := HMD.out _ (Ext.trans HX3.out HXP.out)
      go_wp2_with fail
      refine (KS.out _ (Ext.trans HE3.out HXP.out)).mono ?_
      rintro e w4 ⟨v4, rfl, hr4, hE4⟩
      obtain ⟨a4, c4, hv4, hi4, hc4, -⟩ := hr4.look
      rw [HN.out] at hv4
      subst hv4
      have p0 : w4.cell? ⟨w3.heap.size, 0, none⟩ = some (.slice a3 n c3) := cell_of ((hE4.below.block _ (lt_of_block HBP.out)).trans HBP.out) rfl
      have HE4 := Lib.hid (Ext.trans HE3.out (Ext.trans HXP.out hE4))
      have HI34 := Lib.hid (HI3.out.ext (Ext.trans HXP.out hE4))
      have HI4 := Lib.hid hi4
      clear hE4 m0 m1 hr4 hi4 hc4
      have KE := Lib.hid (show Gives Tryd.prog 20 #[.slice a3 n c3, .slice a4 n c4] w4 (.bool true) from by
        have := SameI_any m m a3 a4 c3 c4 w4 (by rw [HN.out]; have := HN40.out; omega) (by rw [HN.out]; have := HN40.out; omega) HI34.out HI4.out
        rw [HN.out] at this
        simpa using this)
      go_wp2_with fail
      refine KE.out.mono ?_
      intro w5 hE5
      have HE5 := Lib.hid (Ext.trans HE4.out hE5)
      clear hE5 p0
      go_wp2_with fail
      refine (KA.out _ HE5.out).mono ?_
      intro w6 hE6
      have HE6 := Lib.hid (Ext.trans HE5.out hE6)
      clear hE6
      go_wp2
      go_ret
      exact ⟨rfl, HE6.out⟩
    · obtain ⟨hx1, hx2⟩ := xpl_bad he
      have g1 : (srE k z l != 0) = true := by rw [bne_iff_ne]; exact he
      rw [hx1] at KX
      rw [hx2] at KS
      unfold XpP at KX
      unfold ShP at KS
      dsimp only at KX KS
      generalize srE k z l = E at *
      clear hg he hx1 hx2 hdo hHs hlm hT
      generalize l.length = len at *
      go_enter Tryd.func9, Tryd.ntmps9
      go_wp2_with fail
      refine (KG.out _).mono ?_
      intro w2 hE2
      have HX2 := Lib.hid hE2
      have HE2 := Lib.hid (Ext.trans HX1.out hE2)
      clear hE2
      obtain ⟨m0, m1⟩ := HMD.out w2 HX2.out
      go_wp2_with fail
      refine (KX.out _ HE2.out).mono ?_
      rintro e w3 ⟨v3, rfl, hr3, hE3⟩
      obtain ⟨a3, c3, hv3, -, -, -⟩ := hr3.look
      subst hv3
      have HE3 := Lib.hid (Ext.trans HE2.out hE3)
      have HX3 := Lib.hid (Ext.trans HX2.out hE3)
      clear hE3 hr3 m0 m1
      have HXP := Lib.hid (ext_allocN w3 (.cells #[.slice a3 0 c3] 27))
      obtain ⟨m0, m1⟩ := HMD.out _ (Ext.trans HX3.out HXP.out)
      go_wp2_with fail
      refine (KS.out _ (Ext.trans HE3.out HXP.out)).mono ?_
      rintro e w4 ⟨v4, rfl, hr4, hE4⟩
      have HE4 := Lib.hid (Ext.trans HE3.out (Ext.trans HXP.out hE4))
      clear hE4 m0 m1 hr4
      go_wp2_with fail
      refine (KA.out _ HE4.out).mono ?_
      intro w6 hE6
      have HE6 := Lib.hid (Ext.trans HE4.out hE6)
      clear hE6
      go_wp2
      go_ret
      exact ⟨rfl, HE6.out⟩
end Go.Proofs.YtmbkjccckmlacaaDoor

namespace Go.Proofs.YtmbkjccckmlacaaDoor.linearizeExplains
open Go.ChangeShapes Go.WideShapes Go.ChangeAt Go.RowKit
open Go.ChangeMaps (open_string shut_string)
set_option linter.unusedVariables false

theorem own : ownKnob Tryd.prog.godebug = none := by kernel_rfl
theorem laidOut : laidOutB Tryd.prog = true := by kernel_rfl
/-- the cells of a datum of plain values -/
def flat : Nat → DataW Unit → List Value
  | _, .lit l => [l.value]
  | n + 1, .agg ps => ps.flatMap (flat n)
  | _, _ => []
/-- a world for the witness: the settled one, the listed tables holding what the text lays -/
def lay (d : DataW Unit) : Obj → Obj
  | .cells _ t frozen => .cells (flat 4 d).toArray t frozen
  | o => o
noncomputable def laidWorld (os : Os) : World :=
  { World.holding Tryd.prog os ⟨#[], #[], []⟩ with heap := ((((World.holding Tryd.prog os ⟨#[], #[], []⟩).heap.modify 1 (lay Rows.laid_math_bits_deBruijn32tab)).modify 2 (lay Rows.laid_math_bits_deBruijn64tab)).modify 0 (lay Rows.laid_internal_strconv_uint64pow10)) }
theorem laid_met (os : Os) : laidMet Tryd.prog Rows.linearizeExplainsRow.laid ((laidWorld os).forCall (fun _ _ => 0) ⟨#[], #[.agg #[.int .i64 0, .int .i64 0], .slice none 0 0], []⟩).memory :=
  laidMet_of_run' 8 (by kernel_rfl) (by kernel_rfl)
theorem reads (os : Os) {H : Type} (enc : TypeId × Value → H) : ∃ places, DataW.whole enc Tryd.prog ((laidWorld os).forCall (fun _ _ => 0) ⟨#[], #[.agg #[.int .i64 0, .int .i64 0], .slice none 0 0], []⟩).memory Tryd.f9.params.toList Rows.linearizeExplainsSpec.vars false (#[.agg #[.int .i64 0, .int .i64 0], .slice none 0 0] : Array Value).toList 8 = some ([.agg [.lit (.int .i64 0), .lit (.int .i64 0)], .nil], [], places) :=
  ⟨[], by kernel_rfl⟩
theorem tab (W : World) (h : laidMetH Tryd.prog Rows.linearizeExplainsRow.laid W) : TabW W := by
  have h1 : laidMet Tryd.prog Rows.linearizeExplainsRow.laid W := h
  exact Lib.tabIs_of_head (g := 0) (t := 129) (e := 116) (n := 20) (by kernel_rfl) (by kernel_rfl) Tryd.underlying129 Tryd.underlying116 (by kernel_rfl) (by kernel_rfl) h1.tail.tail
set_option maxRecDepth 100000 in
theorem contract (H : Type) (enc : TypeId × Value → H) (W : World) (base : Nat) (args : Array Value) (ds gs : List (DataW H)) (before : List MemPlace)
    (hval0 : ∀ (j : Nat) t v, Tryd.f9.params[j]? = some t → args[j]? = some v → Value.okWide Tryd.prog W .any base t v)
    (hW : DataW.Whole enc Tryd.prog Tryd.f9.params.toList Rows.linearizeExplainsSpec.vars false W args.toList ds gs before) (hz : (DataW.weightsEach Tryd.prog (Tryd.f9.params.toList ++ (OpenSpec.ofChange Rows.linearizeExplainsSpec).bare.plain.varTypes Tryd.prog) (ds ++ gs)).all (· ≤ reachBytes) = true) (hL : laidMetH Tryd.prog Rows.linearizeExplainsRow.laid W) :
    Calls Tryd.prog 9 args W fun e W' => ∃ v, e = .returned v ∧ Rows.linearizeExplainsSpec.post enc Tryd.prog Tryd.f9 false true false false W args v W' := by
  have hval := hval0
  have hW' := hW
  obtain ⟨p, q, hA0, hV, rfl, hfz, hnd⟩ := hW
  have hA : DataW.TrodAll enc Tryd.prog W 0 (fun _ => true) true Tryd.f9.params.toList args.toList ds p := hA0
  rw [Tryd.params9] at hA hval
  obtain ⟨v0, vs0, d0, ds0, p0, q0, hargs, rfl, rfl, h0, r0⟩ := trodAll_cons hA
  obtain ⟨v1, vs1, d1, ds1, p1, q1, rfl, rfl, rfl, h1, r1⟩ := trodAll_cons r0
  obtain ⟨rfl, rfl, rfl⟩ := trodAll_nil r1
  obtain rfl : args = #[v0, v1] := by cases args; simp_all
  obtain ⟨rfl, rfl⟩ := trodVars_none hV
  have k0 := h0
  have lt0 : ∀ x ∈ p0, x.block < W.heap.size := by obtain ⟨m, hm⟩ := k0; exact DataW.trod_lt m _ _ _ hm
  obtain ⟨mk0, mz0, rfl, wk0, wz0⟩ := open_md (hval 0 23 v0 rfl rfl) h0
  obtain ⟨a1, len1, cap1, rfl⟩ := okWide_slice Tryd.underlying24 (hval 1 24 v1 rfl rfl)
  have k1 := h1
  have lt1 : ∀ x ∈ p1, x.block < W.heap.size := by obtain ⟨m, hm⟩ := k1; exact DataW.trod_lt m _ _ _ hm
  obtain ⟨tk1, rfl, w1⟩ := open_ops h1
  clear hA0 hval0 hz
  refine (linearizeExplains_walk mk0 mz0 tk1 a1 cap1 W w1 (tab W hL)).mono fun W' bel => ?_
  exact ⟨_, rfl, _, _, _, [], _, [], hW', trodAll_mk1 (shut_bool Tryd.underlying4 _), (trodAll_cons_mk (Below.trod laidOut (by kernel_rfl) (of_decide_eq_true (by kernel_rfl)) k0 bel lt0) (trodAll_cons_mk (Below.trod laidOut (by kernel_rfl) (of_decide_eq_true (by kernel_rfl)) k1 bel lt1) trodAll_mk0)), rfl, bel.frame _, fun h => by cases h⟩

set_option maxRecDepth 100000 in
theorem lifted (os : Os) (started : os.Started) (H : Type) (enc : TypeId × Value → H) (F : Stop.Interp) :
    ReturnsInHanded {} Tryd.checked os 9 .any ((OpenSpec.ofChange Rows.linearizeExplainsSpec).preRow enc Tryd.prog Tryd.f9 Rows.linearizeExplainsRow.domain false Rows.linearizeExplainsRow.laid) (((OpenSpec.ofChange Rows.linearizeExplainsSpec).at F).post enc Tryd.prog Tryd.f9 false true false false) := by
  obtain ⟨places, hx⟩ := reads os enc
  refine returnsInHanded_of_row (C := Tryd.checked) (s := OpenSpec.ofChange Rows.linearizeExplainsSpec) own started (by kernel_rfl) Tryd.func9
    (witness_row_at (enc := enc) (C := Tryd.checked) false (laidWorld os) #[.agg #[.int .i64 0, .int .i64 0], .slice none 0 0] rfl (by kernel_rfl) (by kernel_rfl) (by kernel_rfl)
      (OpenSpec.preRow_of_cond 8 hx (by kernel_rfl) (fun k hk => by cases hk) (by kernel_rfl) (laid_met os))) ?_
  intro W base args ds gs before hval hW _ _ hz hL hsh _
  exact contract H enc W base args ds gs before hval hW hz hL

theorem said : Rows.LinearizeExplainsSaid :=
  OpenClaim.holds_of_cond 9 Tryd.f9 rfl rfl rfl rfl rfl rfl rfl ⟨rfl, rfl, rfl, rfl, rfl⟩ rfl rfl rfl rfl rfl (by kernel_rfl) Tryd.func9 (by kernel_rfl)
    (of_decide_eq_true (by kernel_rfl)) (by unfold Func.isWrapper; first | (rw [if_pos (by decide +kernel)]; kernel_rfl) | (rw [if_neg (by decide +kernel)]; exact ⟨rfl, rfl⟩))
    (fun os started H enc _ F => by rw [OpenClaim.pre_eq_preRow]; exact lifted os started H enc F)

theorem plain (f : FuncId) (fn : Func) (hf : Tryd.pinned.checked.prog.funcNamed "nursery/nurserylaw44.LinearizeExplains" = some f) (hfn : Tryd.pinned.checked.prog.funcs[f]? = some fn) :
    false = Tryd.pinned.checked.prog.looks [] ∧ ∀ (j : Nat) t, fn.params[j]? = some t → Tryd.pinned.checked.prog.wantsStandIn t = false := by
  obtain rfl : f = 9 := Option.some.inj ((show Tryd.prog.funcNamed "nursery/nurserylaw44.LinearizeExplains" = some 9 by kernel_rfl).symm.trans hf) |>.symm
  obtain rfl : fn = Tryd.f9 := (Option.some.inj (Tryd.func9.symm.trans hfn)).symm
  refine ⟨by kernel_rfl, fun j t ht => ?_⟩
  rw [Tryd.params9] at ht
  rcases j with _ | _ | j
  · obtain rfl : t = 23 := by simpa using ht.symm
    exact (show Tryd.prog.wantsStandIn 23 = false by kernel_rfl)
  · obtain rfl : t = 24 := by simpa using ht.symm
    exact (show Tryd.prog.wantsStandIn 24 = false by kernel_rfl)
  · simp at ht

/-- the statement -/
theorem proved : Rows.LinearizeExplainsCardSaid :=
  Claim7.holds_tied_plain_at .later [] _ _ _ _ said (fun _ h => by cases h) (by kernel_rfl) (fun _ h => by cases h) linearizeExplains_row_tie rfl ⟨rfl, rfl⟩ (by kernel_rfl) rfl plain (by kernel_rfl)
#print axioms proved
end Go.Proofs.YtmbkjccckmlacaaDoor.linearizeExplains

