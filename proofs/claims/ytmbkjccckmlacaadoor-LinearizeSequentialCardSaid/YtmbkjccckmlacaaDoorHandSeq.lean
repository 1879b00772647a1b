/- The statement LinearizeSequentialCardSaid: for every input the law returns true, and the arguments read as before; the tables of the library that it lists are tied to the text. The frame round the walk of the law. (With it: linearize: Verify.; linearize: isState, Apply.; linearize: Apply.; The law's sequential histories.; The law's function sequential.; LinearizeSequential: if calls do not overlap, their order is the only short linearization, if the results are those of the model; with another result there is none.) -/
import Derived.Stop.LaidErr
import Derived.Test.YtmbkjccckmlacaaDoorCards
import Derived.Test.YtmbkjccckmlacaaDoorTie
import Derived.WalkKit
import Derived.ProofKit
import Derived.OpenShut
import Derived.ShutString
import Derived.ChangeOld
import Derived.Below
import Derived.Deep.DeepHandedRow
import Derived.Lib.LaidTab
import Derived.Shelf.Vars
import Derived.Test.YtmbkjccckmlacaaDoorPart7
import Derived.Test.YtmbkjccckmlacaaDoorPart1

namespace Go.Proofs.YtmbkjccckmlacaaDoor
open Go.RowKit
set_option linter.unusedVariables false
set_option linter.unusedSimpArgs false

theorem ordE_in {nl : Nat} : ∀ (o : List Int) (s : Nat), ordE nl s o = 0 → ∀ i ∈ o, 0 ≤ i ∧ i < nl
  | [], _, _ => by simp
  | i :: t, s, h => by
    rw [ordE] at h
    split at h
    · omega
    · next h1 =>
      split at h
      · omega
      · intro x hx
        rcases List.mem_cons.1 hx with rfl | hx
        · omega
        · exact ordE_in t _ h x hx
theorem ordE_bad {nl s : Nat} {i : Int} {t : List Int} (h : i < 0 ∨ (nl : Int) ≤ i) : ordE nl s (i :: t) = 2 := by rw [ordE, if_pos h]
theorem ordE_twice {nl s q : Nat} {t : List Int} (h : q < nl) (hb : s.testBit q = true) : ordE nl s ((q : Int) :: t) = 6 := by
  rw [ordE, if_neg (by omega), Int.toNat_natCast, if_pos hb]
theorem ordE_step {nl s q : Nat} {t : List Int} (h : q < nl) (hb : s.testBit q = false) : ordE nl s ((q : Int) :: t) = ordE nl (s ||| 2 ^ q) t := by
  rw [ordE, if_neg (by omega), Int.toNat_natCast, if_neg (by simp [hb])]
theorem setO_step {s q : Nat} {t : List Int} : setO s ((q : Int) :: t) = setO (s ||| 2 ^ q) t := by simp [setO]
theorem folE_step {k z : Int} {l : List Cl} {n : Nd} {q : Nat} {t : List Int} (h : q < l.length) : folE k z l n ((q : Int) :: t) =
    if subM (bef l q) n.1 l.length = false then 9 else
      if (apM k z n.2 l[q].meth l[q].arg).2.2 ≠ 0 then (apM k z n.2 l[q].meth l[q].arg).2.2 else
      if l[q].en ≠ -1 ∧ (apM k z n.2 l[q].meth l[q].arg).2.1 ≠ l[q].res then 10 else folE k z l (n.1 ||| 2 ^ q, (apM k z n.2 l[q].meth l[q].arg).1) t := by
  rw [folE, Int.toNat_natCast, List.getElem?_eq_getElem h]
theorem or_lt {s q nl : Nat} (hs : s < 2 ^ nl) (hq : q < nl) : s ||| 2 ^ q < 2 ^ nl := Nat.or_lt_two_pow hs (Nat.pow_lt_pow_right (by omega) hq)
theorem mdCells (w : World) (k z : Int) : ∀ W, Ext (w.alloc (.cells #[.int .i64 k, .int .i64 z] 23)) W → W.cell? ⟨w.heap.size, 0, none⟩ = some (.int .i64 k) ∧ W.cell? ⟨w.heap.size, 1, none⟩ = some (.int .i64 z) := fun W hW => by
  have hb := (hW.below.block _ (lt_of_block (alloc_here w (.cells #[.int .i64 k, .int .i64 z] 23)))).trans (alloc_here w (.cells #[.int .i64 k, .int .i64 z] 23))
  exact ⟨cell_of hb rfl, cell_of hb rfl⟩
set_option maxRecDepth 100000 in
set_option maxHeartbeats 4000000 in
theorem Verify_any (k z : Int) (l : List Cl) (order : List Int) (a o : Option Addr) (c co : Nat) (w : World) (h : HsAt w a l) (hlen : l.length ≤ maxLen) (hO : IntsAt w o order) (hol : order.length ≤ 1000) :
    Gives Tryd.prog 21 #[.agg #[.int .i64 k, .int .i64 z], .slice a l.length c, .slice o order.length co] w (.int .i64 (verR k z l order)) := by
  unfold Gives
  have HX := Lib.hid (ext_allocN w (.cells #[.int .i64 k, .int .i64 z] 23))
  have HMD := Lib.hid (mdCells w k z)
  have HH := Lib.hid (fun W (hW : Ext w W) => h.ext hW)
  have HOI := Lib.hid (fun W (hW : Ext w W) => hO.ext hW)
  have HR := Lib.hid (show verR k z l order = if srE k z l ≠ 0 then srE k z l else if ordE l.length 0 order ≠ 0 then ordE l.length 0 order else if cmpl l (setO 0 order, []) = false then 7 else folE k z l (beg0 k) order from rfl)
  generalize verR k z l order = R at *
  obtain ⟨wk, hwk⟩ : ∃ W, W = w.alloc (.cells #[.int .i64 k, .int .i64 z] 23) := ⟨_, rfl⟩
  have hwk' := hwk.symm
  rw [hwk'] at HX HMD
  by_cases hb : srE k z l = 0
  · obtain ⟨hmd, hck, hl⟩ := srE_parts hb
    obtain ⟨hk1, hk6⟩ := mdE_k hmd
    have HR1 := Lib.hid (show R = if ordE l.length 0 order ≠ 0 then ordE l.length 0 order else if cmpl l (setO 0 order, []) = false then 7 else folE k z l (beg0 k) order by rw [HR.out, if_neg (by rw [hb]; simp)])
    have HN := Lib.hid (newS_ok k z l a c wk (HH.out wk HX.out) hb)
    have HEN := Lib.hid (ck_en hck)
    have HGB := Lib.hid (Gd.beg0 (z := z) l hmd)
    clear h hb hmd hck HR hwk hO
    obtain ⟨nl, hnl⟩ : ∃ n, l.length = n := ⟨_, rfl⟩
    have HNL := Lib.hid hnl
    obtain ⟨lo, hlo⟩ : ∃ n, order.length = n := ⟨_, rfl⟩
    have HLO := Lib.hid hlo
    rw [hlo] at hol ⊢
    have hl12 : nl ≤ 12 := by omega
    rw [hnl] at HN HR1 hlen ⊢
    clear hnl hlo hl
    obtain ⟨m0, m1⟩ := HMD.out wk (Below.refl _ _)
    go_enter Tryd.func21, Tryd.ntmps21
    go_wp2_with fail
    try rw [hwk']
    refine HN.out.mono ?_
    rintro e w1 ⟨A, rfl, hs, hp, hc1, hc2, hne, hm1, hm2, hE⟩
    have HS1 := Lib.hid hs
    have HE1 := Lib.hid (Ext.trans HX.out hE)
    have HX1 := Lib.hid hE
    clear hs hp hc1 hc2 hne hm1 hm2 hE m0 m1
    go_wp2_with fail
    go_loopw [9, 29] (fun sv i wr => ∃ (j s : Nat), j ≤ lo ∧ i = .int .i64 (j : Int) ∧ sv = .int .i64 (s : Int) ∧ s < 2 ^ nl ∧ ordE nl s (order.drop j) = ordE nl 0 order ∧ setO s (order.drop j) = setO 0 order ∧ Ext w1 wr) (fun _ i _ => lo - (intOf i).toNat)
    case atStart => exact ⟨0, 0, Nat.zero_le _, rfl, rfl, Nat.two_pow_pos _, rfl, rfl, Below.refl _ _⟩
    case round =>
      obtain ⟨j, s, hj, rfl, rfl, hs, hE0, hS0, hE⟩ := hrel
      have HEr := Lib.hid hE
      have HE0 := Lib.hid hE0
      have HS0 := Lib.hid hS0
      have HSL := Lib.hid hs
      clear hE hE0 hS0 hs
      by_cases hlt : j < lo
      · have hjl : j < order.length := by rw [HLO.out]; exact hlt
        have HD := Lib.hid (List.drop_eq_getElem_cons hjl)
        obtain ⟨b, off, hob, hcell⟩ := (HOI.out wr (Ext.trans HE1.out HEr.out)).at hjl
        subst hob
        have hi0 : (0 : Int) ≤ (j : Int) := by omega
        have hi1 : (j : Int) < (lo : Int) := by omega
        generalize order[j] = i at *
        by_cases hn : i < 0
        · have d1 : decide (i < 0) = true := by simpa using hn
          have HRv := Lib.hid (show R = 2 by
            have e : ordE nl 0 order = 2 := by rw [← HE0.out, HD.out, ordE_bad (Or.inl hn)]
            rw [HR1.out, if_pos (by rw [e]; simp), e])
          clear hn
          go_wp2
          go_ret
          exact ⟨by rw [HRv.out]; rfl, Ext.trans HE1.out HEr.out⟩
        · have d1 : decide (i < 0) = false := by simpa using hn
          by_cases hm : (nl : Int) ≤ i
          · have d2 : decide ((nl : Int) ≤ i) = true := by simpa using hm
            have HRv := Lib.hid (show R = 2 by
              have e : ordE nl 0 order = 2 := by rw [← HE0.out, HD.out, ordE_bad (Or.inr hm)]
              rw [HR1.out, if_pos (by rw [e]; simp), e])
            clear hn hm
            go_wp2
            go_ret
            exact ⟨by rw [HRv.out]; rfl, Ext.trans HE1.out HEr.out⟩
          · obtain ⟨q, rfl⟩ : ∃ q : Nat, i = (q : Int) := ⟨i.toNat, by omega⟩
            have d2 : decide ((nl : Int) ≤ (q : Int)) = false := by simpa using hm
            have d3 : decide (nl ≤ q) = false := by simp; omega
            have hq : q < nl := by omega
            have hsh := shl_one (i := q) (by omega)
            have hs62 := pow_le62 HSL.out hl12
            have hand := i64_and s (2 ^ q) hs62 (pow_small (by omega))
            have hor := i64_or s (2 ^ q) hs62 (pow_small (by omega))
            have HT := Lib.hid (and_pow_zero s q)
            have HOL := Lib.hid (or_lt HSL.out hq)
            have HTW := Lib.hid (fun (hb : s.testBit q = true) => show ordE nl 0 order = 6 by rw [← HE0.out, HD.out, ordE_twice hq hb])
            have HSP := Lib.hid (fun (hb : s.testBit q = false) => show ordE nl (s ||| 2 ^ q) (order.drop (j + 1)) = ordE nl 0 order by rw [← HE0.out, HD.out, ordE_step hq hb])
            have HSO := Lib.hid (show setO (s ||| 2 ^ q) (order.drop (j + 1)) = setO 0 order by rw [← HS0.out, HD.out, setO_step])
            have hq0 : (0 : Int) ≤ (q : Int) := by omega
            have hq64 : (q : Int) ≤ 64 := by omega
            generalize hTT : s &&& 2 ^ q = T at *
            generalize hOO : s ||| 2 ^ q = O at *
            generalize hP2 : 2 ^ q = P2 at *
            clear hn hm hTT hOO hP2 hq hs62
            cases hbit : s.testBit q with
            | true =>
              have g1 : ((T : Int) != 0) = true := by
                have : ¬ T = 0 := fun e => by rw [HT.out.1 e] at hbit; cases hbit
                rw [bne_iff_ne]; omega
              have HRv := Lib.hid (show R = 6 by rw [HR1.out, if_pos (by rw [HTW.out hbit]; simp), HTW.out hbit])
              clear hbit
              go_wp2
              go_ret
              exact ⟨by rw [HRv.out]; rfl, Ext.trans HE1.out HEr.out⟩
            | false =>
              have g1 : ((T : Int) != 0) = false := by rw [HT.out.2 hbit]; rfl
              have HSQ := Lib.hid (HSP.out hbit)
              clear hbit
              go_wp2
              exact ⟨⟨j + 1, O, by omega, by go_num, rfl, HOL.out, HSQ.out, HSO.out, HEr.out⟩, by simp [intOf]; omega⟩
      · have hjl : lo = j := by omega
        subst hjl
        have hz0 : ordE nl 0 order = 0 := by rw [← HE0.out, List.drop_of_length_le (by rw [HLO.out]; exact Nat.le_refl _)]; rfl
        have hs0 : setO 0 order = s := by rw [← HS0.out, List.drop_of_length_le (by rw [HLO.out]; exact Nat.le_refl _)]; rfl
        have HR2 := Lib.hid (show R = if cmpl l (s, []) = false then 7 else folE k z l (beg0 k) order by rw [HR1.out, if_neg (by rw [hz0]; simp), hs0])
        have HIN := Lib.hid (ordE_in order 0 hz0)
        obtain ⟨w2, rfl⟩ : ∃ W, W = wr := ⟨_, rfl⟩
        have HS2 := Lib.hid (HS1.out.ext HEr.out)
        have HE2 := Lib.hid (Ext.trans HE1.out HEr.out)
        have HX2 := Lib.hid (Ext.trans HX1.out HEr.out)
        have hs62 := pow_le62 HSL.out hl12
        have hmu62 := pow_le62 (by have := must_lt l; rw [HNL.out] at this; exact this) hl12
        have handn := i64_andNot (must l) s hmu62 hs62
        have HU := Lib.hid (show andN (must l) s = 0 ↔ cmpl l (s, []) = true from by
          have := andN_zero (must_lt l) (b := s)
          unfold cmpl
          exact this)
        have hb := HS2.out.box
        have HBG := Lib.hid (begin_any HS2.out)
        obtain ⟨p, c1, c2, la, lc, g⟩ := A
        dsimp only at *
        have q4 := cell_of hb (i := 4) rfl
        clear hz0 hs0 HR1 hb HE0 HS0 hs62 hmu62
        generalize andN (must l) s = U at *
        generalize must l = mu at *
        cases hc : cmpl l (s, []) with
        | false =>
          have g1 : ((U : Int) != 0) = true := by
            have : ¬ U = 0 := fun e => by rw [HU.out.1 e] at hc; cases hc
            rw [bne_iff_ne]; omega
          have HRv := Lib.hid (show R = 7 by rw [HR2.out, if_pos hc])
          clear hc
          go_wp2
          go_ret
          exact ⟨by rw [HRv.out]; rfl, HE2.out⟩
        | true =>
          have g1 : ((U : Int) != 0) = false := by rw [HU.out.2 hc]; rfl
          have HR3 := Lib.hid (show R = folE k z l (beg0 k) order by rw [HR2.out, if_neg (by rw [hc]; simp)])
          clear hc HR2 HU
          go_wp2_with fail
          refine HBG.out.mono ?_
          rintro e w3 ⟨a3, c3, rfl, h3, hc3, hE3⟩
          have H3 := Lib.hid h3
          have HE3 := Lib.hid (Ext.trans HE2.out hE3)
          have HX3 := Lib.hid (Ext.trans HX2.out hE3)
          have HE23 := Lib.hid hE3
          clear h3 hE3
          have HGB2 := Lib.hid HGB.out
          have HR4 := Lib.hid HR3.out.symm
          generalize beg0 k = n0 at *
          obtain ⟨s0, L0⟩ := n0
          dsimp only at *
          have HAL := Lib.hid (ext_allocN w3 (.cells #[.int .i64 (s0 : Int), .slice a3 L0.length c3] tNd))
          have HAH := Lib.hid (alloc_here w3 (.cells #[.int .i64 (s0 : Int), .slice a3 L0.length c3] tNd))
          have HST := Lib.hid (show ∃ (j s : Nat) (L : List Int) (a2 : Option Addr) (c2 : Nat), j ≤ lo ∧ Value.int .i64 0 = .int .i64 (j : Int) ∧ Gd k z l (s, L) ∧ folE k z l (s, L) (order.drop j) = R ∧ IntsAt (w3.alloc (.cells #[.int .i64 (s0 : Int), .slice a3 L0.length c3] tNd)) a2 L ∧ L.length ≤ c2 ∧ (L ≠ [] → ∀ x, a2 = some x → x.block ≠ w3.heap.size) ∧ (w3.alloc (.cells #[.int .i64 (s0 : Int), .slice a3 L0.length c3] tNd)).heap[w3.heap.size]? = some (.cells #[.int .i64 (s : Int), .slice a2 L.length c2] tNd (0, 0)) ∧ Ext w3 (w3.alloc (.cells #[.int .i64 (s0 : Int), .slice a3 L0.length c3] tNd)) from by
            refine ⟨0, s0, L0, a3, c3, Nat.zero_le _, rfl, HGB2.out, HR4.out, H3.out.ext HAL.out, hc3, fun hne x e => ?_, HAH.out, HAL.out⟩
            obtain ⟨b, of, e2, hcc⟩ := H3.out 0 (by cases L0 with | nil => exact absurd rfl hne | cons => simp)
            rw [e] at e2
            cases e2
            have := cell_lt hcc
            dsimp only at this
            intro h0
            dsimp only at h0
            omega)
          clear hc3
          go_wp2_with fail
          go_loopw [62] (fun i wr => ∃ (j s : Nat) (L : List Int) (a2 : Option Addr) (c2 : Nat), j ≤ lo ∧ i = .int .i64 (j : Int) ∧ Gd k z l (s, L) ∧ folE k z l (s, L) (order.drop j) = R ∧ IntsAt wr a2 L ∧ L.length ≤ c2 ∧ (L ≠ [] → ∀ x, a2 = some x → x.block ≠ w3.heap.size) ∧ wr.heap[w3.heap.size]? = some (.cells #[.int .i64 (s : Int), .slice a2 L.length c2] tNd (0, 0)) ∧ Ext w3 wr) (fun i _ => lo - (intOf i).toNat)
          case atStart => exact HST.out
          case round =>
            obtain ⟨j, s, L, a2, c2, hj, rfl, hgd, hfo, hIa, hca, hna, hbx, hEr⟩ := hrel
            have HGD := Lib.hid hgd
            have HFO := Lib.hid hfo
            have HIA := Lib.hid hIa
            have HCA := Lib.hid hca
            have HNA := Lib.hid hna
            have HBX := Lib.hid hbx
            have HER := Lib.hid hEr
            clear hgd hfo hIa hca hna hbx hEr HST HAL HAH
            by_cases hlt : j < lo
            · have hjl : j < order.length := by rw [HLO.out]; exact hlt
              have HD := Lib.hid (List.drop_eq_getElem_cons hjl)
              have hin := HIN.out _ (List.getElem_mem hjl)
              obtain ⟨b, off, hob, hcell⟩ := (HOI.out wr (Ext.trans HE3.out HER.out)).at hjl
              have hi0 : (0 : Int) ≤ (j : Int) := by omega
              have hi1 : (j : Int) < (lo : Int) := by omega
              generalize order[j] = i at *
              obtain ⟨q, rfl⟩ : ∃ q : Nat, i = (q : Int) := ⟨i.toNat, by omega⟩
              have hqn : q < nl := by omega
              have hql : q < l.length := by rw [HNL.out]; exact hqn
              have HFE := Lib.hid (show (if subM (bef l q) s l.length = false then 9 else
                if (apM k z L l[q].meth l[q].arg).2.2 ≠ 0 then (apM k z L l[q].meth l[q].arg).2.2 else
                if l[q].en ≠ -1 ∧ (apM k z L l[q].meth l[q].arg).2.1 ≠ l[q].res then 10 else folE k z l (s ||| 2 ^ q, (apM k z L l[q].meth l[q].arg).1) (order.drop (j + 1))) = R by
                rw [← HFO.out, HD.out, folE_step hql])
              have HSS := Lib.hid (show s < 2 ^ nl by have := HGD.out.lt; rw [HNL.out] at this; exact this)
              have HLS := Lib.hid (show stR k z L = true from HGD.out.st)
              have HAP := Lib.hid (fun W (hW : Ext wr W) => apply_any k z L l[q].meth l[q].arg a2 c2 W hk1 hk6 HLS.out (HIA.out.ext hW) HCA.out)
              have HAK := Lib.hid (fun (h : (apM k z L l[q].meth l[q].arg).2.2 = 0) => stR_ap (a := l[q].arg) (m := l[q].meth) hk1 hk6 HLS.out h)
              have HEQ := Lib.hid (HEN.out q hql)
              have HCL := Lib.hid (fun W (hW : Ext wr W) => (HH.out W (Ext.trans HE3.out (Ext.trans HER.out hW))) q hql)
              obtain ⟨bl, ol, hla, x0, x1, x2, x3, x4, x5⟩ := HCL.out wr (Below.refl _ _)
              subst hla hob
              have HCM := Lib.hid (fun W (hW : Ext wr W) => show Cl.cells W bl (ol + q * 6) l[q] from by
                obtain ⟨b', o', e', hc'⟩ := HCL.out W hW
                cases e'
                exact hc')
              have hbi := bfO_get (bef l) l.length q hql
              have HBI := Lib.hid (fun W (hW : Ext wr W) => show (W.cell? ⟨p, 3, none⟩ = some (.slice (some ⟨g, 0, none⟩) nl nl)) ∧ W.cell? ⟨g, q, none⟩ = some (.int .i64 ((bef l q : Nat) : Int)) ∧ (W.cell? ⟨w3.heap.size, 0, none⟩ = some (.int .i64 (s : Int)) ∧ W.cell? ⟨w3.heap.size, 1, none⟩ = some (.slice a2 L.length c2)) ∧
                (W.cell? ⟨w.heap.size, 0, none⟩ = some (.int .i64 k) ∧ W.cell? ⟨w.heap.size, 1, none⟩ = some (.int .i64 z)) from by
                have hs := HS2.out.ext (show Ext w2 W from by have h1 := Ext.trans HE23.out (Ext.trans HER.out hW); exact h1)
                have hbx := (hW.below.block _ (lt_of_block HBX.out)).trans HBX.out
                rw [← HNL.out]
                exact ⟨cell_of hs.box rfl, cell_of hs.bf hbi, ⟨cell_of hbx rfl, cell_of hbx rfl⟩, HMD.out W (Ext.trans HX3.out (Ext.trans HER.out hW))⟩)
              have hU62 := pow_le62 HSS.out hl12
              have hand := i64_andNot (bef l q) s (pow_le62 (by have := bef_lt l q; rw [HNL.out] at this; exact this) hl12) hU62
              have hor := i64_or s (2 ^ q) hU62 (pow_small (by omega))
              have hsh := shl_one (i := q) (by omega)
              have HU := Lib.hid (andN_zero (bef_lt l q) (b := s))
              have HOL := Lib.hid (or_lt HSS.out hqn)
              generalize l[q] = x at *
              obtain ⟨tk, me, ar, re, be, en⟩ := x
              unfold Cl.cells at HCM
              dsimp only at *
              have hq0 : (0 : Int) ≤ (q : Int) := by omega
              have hq1 : (q : Int) < (nl : Int) := by omega
              have hq64 : (q : Int) ≤ 64 := by omega
              obtain ⟨y3, yg, ⟨n0, n1⟩, m0, m1⟩ := HBI.out wr (Below.refl _ _)
              clear hbi hU62 hin hjl hql
              generalize hUU : andN (bef l q) s = U at *
              generalize bef l q = bf at *
              generalize hOO : s ||| 2 ^ q = O at *
              generalize hP2 : 2 ^ q = P2 at *
              clear hUU hOO hP2
              cases hsub : subM bf s l.length with
              | false =>
                have g2 : ((U : Int) != 0) = true := by
                  have : ¬ U = 0 := fun e => by rw [HU.out.1 e] at hsub; cases hsub
                  rw [bne_iff_ne]; omega
                have HRv := Lib.hid (show R = 9 by rw [← HFE.out, if_pos hsub])
                clear hsub
                go_wp2_with fail
                go_quiet (fail)
                go_wp2
                go_ret
                exact ⟨by rw [HRv.out]; rfl, Ext.drewN' (Ext.trans HE3.out HER.out)⟩
              | true =>
                have g2 : ((U : Int) != 0) = false := by rw [HU.out.2 hsub]; rfl
                have HF2 := Lib.hid (show (if (apM k z L me ar).2.2 ≠ 0 then (apM k z L me ar).2.2 else if en ≠ -1 ∧ (apM k z L me ar).2.1 ≠ re then 10 else folE k z l (O, (apM k z L me ar).1) (order.drop (j + 1))) = R by
                  have := HFE.out
                  rw [if_neg (by rw [hsub]; simp)] at this
                  exact this)
                clear hsub HFE
                generalize apM k z L me ar = Z at *
                go_wp2_with fail
                go_quiet (fail)
                generalize hwz : wr.drewN nq = wz at *
                have HEz := Lib.hid (show Ext wr wz by rw [← hwz]; exact Ext.drewN' (Below.refl _ _))
                clear hwz y3 yg n0 n1 m0 m1 x0 x1 x2 x3 x4 x5
                obtain ⟨L1, rs, er⟩ := Z
                dsimp only at *
                obtain ⟨y3, yg, ⟨n0, n1⟩, m0, m1⟩ := HBI.out wz HEz.out
                obtain ⟨x0, x1, x2, x3, x4, x5⟩ := HCM.out wz HEz.out
                go_wp2_with fail
                refine wp_region_tail (l1 := [_, _, _, _, _, _, _, _, _, _, _, _, _, _, _, _, _, _, _, _]) (l2 := [_]) (by kernel_rfl) Ext (fun W => Below.refl _ W) (fun W => show Below W.heap.size W { W with drawn := W.drawn + 1 } from ⟨rfl, rfl, rfl, Nat.le_refl _, fun _ _ => rfl⟩) Ext.trans
                  (fun i s W => match i with
                    | 0 => s 0 = .agg #[.int .i64 k, .int .i64 z]
                    | 1 => s 1 = .pointer (some ⟨w3.heap.size, 1, none⟩)
                    | 2 => s 2 = .slice a2 L.length c2
                    | 3 => s 3 = .slice (some ⟨bl, ol, none⟩) nl c
                    | 4 => s 4 = .int .i64 (q : Int)
                    | 5 => s 5 = .pointer (some ⟨bl, ol + q * 6, none⟩)
                    | 6 => s 6 = .pointer (some ⟨bl, ol + q * 6 + 1, none⟩)
                    | 7 => s 7 = .int .i64 me
                    | 8 => s 8 = .slice (some ⟨bl, ol, none⟩) nl c
                    | 9 => s 9 = .int .i64 (q : Int)
                    | 10 => s 10 = .pointer (some ⟨bl, ol + q * 6, none⟩)
                    | 11 => s 11 = .pointer (some ⟨bl, ol + q * 6 + 2, none⟩)
                    | 12 => s 12 = .int .i64 ar
                    | 13 => ∃ a1 cc1, s 13 = .tuple #[.slice a1 L1.length cc1, .int .i64 rs, .int .i64 er] ∧ IntsAt W a1 L1 ∧ L1.length ≤ cc1 ∧ Frm wz a2 L a1 L1
                    | 14 => ∃ a1 cc1, s 14 = .tuple #[.slice a1 L1.length cc1, .int .i64 rs, .int .i64 er] ∧ IntsAt W a1 L1 ∧ L1.length ≤ cc1 ∧ Frm wz a2 L a1 L1
                    | 15 => ∃ a1 cc1, s 15 = .slice a1 L1.length cc1 ∧ IntsAt W a1 L1 ∧ L1.length ≤ cc1 ∧ Frm wz a2 L a1 L1
                    | 16 => s 16 = .int .i64 rs
                    | 17 => s 17 = .int .i64 er
                    | 18 => ∃ a1 cc1, s 18 = .slice a1 L1.length cc1 ∧ IntsAt W a1 L1 ∧ L1.length ≤ cc1 ∧ Frm wz a2 L a1 L1
                    | 19 => s 19 = .int .i64 rs
                    | _ => True)
                  (fun i => [i])
                  (by
                    intro i s s' W W' h hs hE
                    have hs := hs i (by simp)
                    match i, h, hs with
                    | 0, h, hs => exact hs.trans h
                    | 1, h, hs => exact hs.trans h
                    | 2, h, hs => exact hs.trans h
                    | 3, h, hs => exact hs.trans h
                    | 4, h, hs => exact hs.trans h
                    | 5, h, hs => exact hs.trans h
                    | 6, h, hs => exact hs.trans h
                    | 7, h, hs => exact hs.trans h
                    | 8, h, hs => exact hs.trans h
                    | 9, h, hs => exact hs.trans h
                    | 10, h, hs => exact hs.trans h
                    | 11, h, hs => exact hs.trans h
                    | 12, h, hs => exact hs.trans h
                    | 13, ⟨a1, cc1, h, h1, h2, h3⟩, hs => exact ⟨a1, cc1, hs.trans h, h1.ext hE, h2, h3⟩
                    | 14, ⟨a1, cc1, h, h1, h2, h3⟩, hs => exact ⟨a1, cc1, hs.trans h, h1.ext hE, h2, h3⟩
                    | 15, ⟨a1, cc1, h, h1, h2, h3⟩, hs => exact ⟨a1, cc1, hs.trans h, h1.ext hE, h2, h3⟩
                    | 16, h, hs => exact hs.trans h
                    | 17, h, hs => exact hs.trans h
                    | 18, ⟨a1, cc1, h, h1, h2, h3⟩, hs => exact ⟨a1, cc1, hs.trans h, h1.ext hE, h2, h3⟩
                    | 19, h, hs => exact hs.trans h
                    | i + 20, h, hs => exact trivial)
                  (by kernel_rfl) (by kernel_rfl) (by kernel_rfl) 121 rfl (by kernel_rfl) (by kernel_rfl) ?_ ?_
                · intro i op ho a' W hA
                  obtain ⟨y3, yg, ⟨n0, n1⟩, m0, m1⟩ := HBI.out W (Ext.trans HEz.out hA.rel)
                  obtain ⟨x0, x1, x2, x3, x4, x5⟩ := HCM.out W (Ext.trans HEz.out hA.rel)
                  match i, ho with
                  | 0, ho =>
                    obtain rfl := Option.some.inj ho
                    have e1 : a'.eval (.tmp 3) = .pointer (some ⟨w.heap.size, 0, none⟩) := hA.keep 3 (by kernel_rfl)
                    refine GoesG.value (.agg #[.int .i64 k, .int .i64 z]) rfl ?_ (Below.refl _ _) (fun s h1 h2 => h1 rfl)
                    simp only [execOp, e1]
                    simp [go_sem, m0, m1, n1, x1, x2, hq0, hq1]
                  | 1, ho =>
                    obtain rfl := Option.some.inj ho
                    have e1 : a'.eval (.tmp 12) = .pointer (some ⟨w3.heap.size, 0, none⟩) := hA.keep 12 (by kernel_rfl)
                    refine GoesG.value (.pointer (some ⟨w3.heap.size, 1, none⟩)) rfl ?_ (Below.refl _ _) (fun s h1 h2 => h1 rfl)
                    simp only [execOp, e1]
                    simp [go_sem, m0, m1, n1, x1, x2, hq0, hq1]
                  | 2, ho =>
                    obtain rfl := Option.some.inj ho
                    have e1 : a'.eval (.tmp 79) = .pointer (some ⟨w3.heap.size, 1, none⟩) := (sv_dst (l := _) rfl).symm.trans (hA.new 1 (by decide) (by kernel_rfl))
                    refine GoesG.value (.slice a2 L.length c2) rfl ?_ (Below.refl _ _) (fun s h1 h2 => h1 rfl)
                    simp only [execOp, e1]
                    simp [go_sem, m0, m1, n1, x1, x2, hq0, hq1]
                  | 3, ho =>
                    obtain rfl := Option.some.inj ho
                    have e1 : a'.eval (.tmp 1) = .slice (some ⟨bl, ol, none⟩) nl c := hA.keep 1 (by kernel_rfl)
                    refine GoesG.value (.slice (some ⟨bl, ol, none⟩) nl c) rfl ?_ (Below.refl _ _) (fun s h1 h2 => h1 rfl)
                    simp only [execOp, e1]
                    simp [go_sem, m0, m1, n1, x1, x2, hq0, hq1]
                  | 4, ho =>
                    obtain rfl := Option.some.inj ho
                    have e1 : a'.eval (.tmp 14) = .int .i64 (q : Int) := hA.keep 14 (by kernel_rfl)
                    refine GoesG.value (.int .i64 (q : Int)) rfl ?_ (Below.refl _ _) (fun s h1 h2 => h1 rfl)
                    simp only [execOp, e1]
                    simp [go_sem, m0, m1, n1, x1, x2, hq0, hq1]
                  | 5, ho =>
                    obtain rfl := Option.some.inj ho
                    have e1 : a'.eval (.tmp 81) = .slice (some ⟨bl, ol, none⟩) nl c := (sv_dst (l := _) rfl).symm.trans (hA.new 3 (by decide) (by kernel_rfl))
                    have e2 : a'.eval (.tmp 82) = .int .i64 (q : Int) := (sv_dst (l := _) rfl).symm.trans (hA.new 4 (by decide) (by kernel_rfl))
                    refine GoesG.value (.pointer (some ⟨bl, ol + q * 6, none⟩)) rfl ?_ (Below.refl _ _) (fun s h1 h2 => h1 rfl)
                    simp only [execOp, e1, e2]
                    simp [go_sem, m0, m1, n1, x1, x2, hq0, hq1]
                  | 6, ho =>
                    obtain rfl := Option.some.inj ho
                    have e1 : a'.eval (.tmp 83) = .pointer (some ⟨bl, ol + q * 6, none⟩) := (sv_dst (l := _) rfl).symm.trans (hA.new 5 (by decide) (by kernel_rfl))
                    refine GoesG.value (.pointer (some ⟨bl, ol + q * 6 + 1, none⟩)) rfl ?_ (Below.refl _ _) (fun s h1 h2 => h1 rfl)
                    simp only [execOp, e1]
                    simp [go_sem, m0, m1, n1, x1, x2, hq0, hq1]
                  | 7, ho =>
                    obtain rfl := Option.some.inj ho
                    have e1 : a'.eval (.tmp 84) = .pointer (some ⟨bl, ol + q * 6 + 1, none⟩) := (sv_dst (l := _) rfl).symm.trans (hA.new 6 (by decide) (by kernel_rfl))
                    refine GoesG.value (.int .i64 me) rfl ?_ (Below.refl _ _) (fun s h1 h2 => h1 rfl)
                    simp only [execOp, e1]
                    simp [go_sem, m0, m1, n1, x1, x2, hq0, hq1]
                  | 8, ho =>
                    obtain rfl := Option.some.inj ho
                    have e1 : a'.eval (.tmp 1) = .slice (some ⟨bl, ol, none⟩) nl c := hA.keep 1 (by kernel_rfl)
                    refine GoesG.value (.slice (some ⟨bl, ol, none⟩) nl c) rfl ?_ (Below.refl _ _) (fun s h1 h2 => h1 rfl)
                    simp only [execOp, e1]
                    simp [go_sem, m0, m1, n1, x1, x2, hq0, hq1]
                  | 9, ho =>
                    obtain rfl := Option.some.inj ho
                    have e1 : a'.eval (.tmp 14) = .int .i64 (q : Int) := hA.keep 14 (by kernel_rfl)
                    refine GoesG.value (.int .i64 (q : Int)) rfl ?_ (Below.refl _ _) (fun s h1 h2 => h1 rfl)
                    simp only [execOp, e1]
                    simp [go_sem, m0, m1, n1, x1, x2, hq0, hq1]
                  | 10, ho =>
                    obtain rfl := Option.some.inj ho
                    have e1 : a'.eval (.tmp 86) = .slice (some ⟨bl, ol, none⟩) nl c := (sv_dst (l := _) rfl).symm.trans (hA.new 8 (by decide) (by kernel_rfl))
                    have e2 : a'.eval (.tmp 87) = .int .i64 (q : Int) := (sv_dst (l := _) rfl).symm.trans (hA.new 9 (by decide) (by kernel_rfl))
                    refine GoesG.value (.pointer (some ⟨bl, ol + q * 6, none⟩)) rfl ?_ (Below.refl _ _) (fun s h1 h2 => h1 rfl)
                    simp only [execOp, e1, e2]
                    simp [go_sem, m0, m1, n1, x1, x2, hq0, hq1]
                  | 11, ho =>
                    obtain rfl := Option.some.inj ho
                    have e1 : a'.eval (.tmp 88) = .pointer (some ⟨bl, ol + q * 6, none⟩) := (sv_dst (l := _) rfl).symm.trans (hA.new 10 (by decide) (by kernel_rfl))
                    refine GoesG.value (.pointer (some ⟨bl, ol + q * 6 + 2, none⟩)) rfl ?_ (Below.refl _ _) (fun s h1 h2 => h1 rfl)
                    simp only [execOp, e1]
                    simp [go_sem, m0, m1, n1, x1, x2, hq0, hq1]
                  | 12, ho =>
                    obtain rfl := Option.some.inj ho
                    have e1 : a'.eval (.tmp 89) = .pointer (some ⟨bl, ol + q * 6 + 2, none⟩) := (sv_dst (l := _) rfl).symm.trans (hA.new 11 (by decide) (by kernel_rfl))
                    refine GoesG.value (.int .i64 ar) rfl ?_ (Below.refl _ _) (fun s h1 h2 => h1 rfl)
                    simp only [execOp, e1]
                    simp [go_sem, m0, m1, n1, x1, x2, hq0, hq1]
                  | 13, ho =>
                    obtain rfl := Option.some.inj ho
                    have e1 : a'.eval (.tmp 78) = .agg #[.int .i64 k, .int .i64 z] := (sv_dst (l := _) rfl).symm.trans (hA.new 0 (by decide) (by kernel_rfl))
                    have e2 : a'.eval (.tmp 80) = .slice a2 L.length c2 := (sv_dst (l := _) rfl).symm.trans (hA.new 2 (by decide) (by kernel_rfl))
                    have e3 : a'.eval (.tmp 85) = .int .i64 me := (sv_dst (l := _) rfl).symm.trans (hA.new 7 (by decide) (by kernel_rfl))
                    have e4 : a'.eval (.tmp 90) = .int .i64 ar := (sv_dst (l := _) rfl).symm.trans (hA.new 12 (by decide) (by kernel_rfl))
                    refine GoesG.call 45 #[.agg #[.int .i64 k, .int .i64 z], .slice a2 L.length c2, .int .i64 me, .int .i64 ar] rfl ?_ ?_
                    · have en := enters_fn Tryd.func45 (by kernel_rfl) rfl
                      simp [Act.eval] at e1 e2 e3 e4
                      simp [execOp, go_sem, e1, e2, e3, e4, en]
                    · refine (HAP.out W (Ext.trans HEz.out hA.rel)).mono ?_
                      rintro e W2 ⟨a1, cc1, rfl, h1, h2, h3, h4⟩
                      exact ⟨_, rfl, h3, fun s g1 g2 => ⟨a1, cc1, g1 rfl, h1, h2, h4.up hA.rel⟩⟩
                  | 14, ho =>
                    obtain rfl := Option.some.inj ho
                    obtain ⟨a1, cc1, e0, h1, h2, h3⟩ := hA.new 13 (by decide) (by kernel_rfl)
                    have e1 : a'.eval (.tmp 91) = .tuple #[.slice a1 L1.length cc1, .int .i64 rs, .int .i64 er] := (sv_dst (l := _) rfl).symm.trans e0
                    refine GoesG.value (.tuple #[.slice a1 L1.length cc1, .int .i64 rs, .int .i64 er]) rfl ?_ (Below.refl _ _) (fun s g1 g2 => ⟨a1, cc1, g1 rfl, h1, h2, h3⟩)
                    simp only [execOp, e1]
                    simp [go_sem]
                  | 15, ho =>
                    obtain rfl := Option.some.inj ho
                    obtain ⟨a1, cc1, e0, h1, h2, h3⟩ := hA.new 14 (by decide) (by kernel_rfl)
                    have e1 : a'.eval (.tmp 77) = .tuple #[.slice a1 L1.length cc1, .int .i64 rs, .int .i64 er] := (sv_dst (l := _) rfl).symm.trans e0
                    refine GoesG.value (.slice a1 L1.length cc1) rfl ?_ (Below.refl _ _) (fun s g1 g2 => ⟨a1, cc1, g1 rfl, h1, h2, h3⟩)
                    simp only [execOp, e1]
                    simp [go_sem]
                  | 16, ho =>
                    obtain rfl := Option.some.inj ho
                    obtain ⟨a1, cc1, e0, h1, h2, h3⟩ := hA.new 14 (by decide) (by kernel_rfl)
                    have e1 : a'.eval (.tmp 77) = .tuple #[.slice a1 L1.length cc1, .int .i64 rs, .int .i64 er] := (sv_dst (l := _) rfl).symm.trans e0
                    refine GoesG.value (.int .i64 rs) rfl ?_ (Below.refl _ _) (fun s g1 g2 => g1 rfl)
                    simp only [execOp, e1]
                    simp [go_sem]
                  | 17, ho =>
                    obtain rfl := Option.some.inj ho
                    obtain ⟨a1, cc1, e0, h1, h2, h3⟩ := hA.new 14 (by decide) (by kernel_rfl)
                    have e1 : a'.eval (.tmp 77) = .tuple #[.slice a1 L1.length cc1, .int .i64 rs, .int .i64 er] := (sv_dst (l := _) rfl).symm.trans e0
                    refine GoesG.value (.int .i64 er) rfl ?_ (Below.refl _ _) (fun s g1 g2 => g1 rfl)
                    simp only [execOp, e1]
                    simp [go_sem]
                  | 18, ho =>
                    obtain rfl := Option.some.inj ho
                    obtain ⟨a1, cc1, e0, h1, h2, h3⟩ := hA.new 15 (by decide) (by kernel_rfl)
                    have e1 : a'.eval (.tmp 92) = .slice a1 L1.length cc1 := (sv_dst (l := _) rfl).symm.trans e0
                    refine GoesG.value (.slice a1 L1.length cc1) rfl ?_ (Below.refl _ _) (fun s g1 g2 => ⟨a1, cc1, g1 rfl, h1, h2, h3⟩)
                    simp only [execOp, e1]
                    simp [go_sem]
                  | 19, ho =>
                    obtain rfl := Option.some.inj ho
                    have e1 : a'.eval (.tmp 93) = .int .i64 rs := (sv_dst (l := _) rfl).symm.trans (hA.new 16 (by decide) (by kernel_rfl))
                    refine GoesG.value (.int .i64 rs) rfl ?_ (Below.refl _ _) (fun s h1 h2 => h1 rfl)
                    simp only [execOp, e1]
                    simp [go_sem, m0, m1, n1, x1, x2, hq0, hq1]
                  | i + 20, ho => cases ho
                · intro vs w4 hvs hG hΦ
                  obtain ⟨y0, y1, y2, y3, y4, y5, y6, y7, y8, y9, y10, y11, y12, y13, y14, y15, y16, y17, y18, y19, rfl⟩ : ∃ y0 y1 y2 y3 y4 y5 y6 y7 y8 y9 y10 y11 y12 y13 y14 y15 y16 y17 y18 y19, vs = y0 :: y1 :: y2 :: y3 :: y4 :: y5 :: y6 :: y7 :: y8 :: y9 :: y10 :: y11 :: y12 :: y13 :: y14 :: y15 :: y16 :: y17 :: y18 :: y19 :: [] := by
                    match vs, hvs with
                    | y0 :: y1 :: y2 :: y3 :: y4 :: y5 :: y6 :: y7 :: y8 :: y9 :: y10 :: y11 :: y12 :: y13 :: y14 :: y15 :: y16 :: y17 :: y18 :: y19 :: [], _ => exact ⟨y0, y1, y2, y3, y4, y5, y6, y7, y8, y9, y10, y11, y12, y13, y14, y15, y16, y17, y18, y19, rfl⟩
                  have e0 : y0 = .agg #[.int .i64 k, .int .i64 z] := hΦ 0 (by decide)
                  subst e0
                  have e1 : y1 = .pointer (some ⟨w3.heap.size, 1, none⟩) := hΦ 1 (by decide)
                  subst e1
                  have e2 : y2 = .slice a2 L.length c2 := hΦ 2 (by decide)
                  subst e2
                  have e3 : y3 = .slice (some ⟨bl, ol, none⟩) nl c := hΦ 3 (by decide)
                  subst e3
                  have e4 : y4 = .int .i64 (q : Int) := hΦ 4 (by decide)
                  subst e4
                  have e5 : y5 = .pointer (some ⟨bl, ol + q * 6, none⟩) := hΦ 5 (by decide)
                  subst e5
                  have e6 : y6 = .pointer (some ⟨bl, ol + q * 6 + 1, none⟩) := hΦ 6 (by decide)
                  subst e6
                  have e7 : y7 = .int .i64 me := hΦ 7 (by decide)
                  subst e7
                  have e8 : y8 = .slice (some ⟨bl, ol, none⟩) nl c := hΦ 8 (by decide)
                  subst e8
                  have e9 : y9 = .int .i64 (q : Int) := hΦ 9 (by decide)
                  subst e9
                  have e10 : y10 = .pointer (some ⟨bl, ol + q * 6, none⟩) := hΦ 10 (by decide)
                  subst e10
                  have e11 : y11 = .pointer (some ⟨bl, ol + q * 6 + 2, none⟩) := hΦ 11 (by decide)
                  subst e11
                  have e12 : y12 = .int .i64 ar := hΦ 12 (by decide)
                  subst e12
                  have p13 : ∃ a1 cc1, y13 = .tuple #[.slice a1 L1.length cc1, .int .i64 rs, .int .i64 er] ∧ IntsAt w4 a1 L1 ∧ L1.length ≤ cc1 ∧ Frm wz a2 L a1 L1 := hΦ 13 (by decide)
                  have p14 : ∃ a1 cc1, y14 = .tuple #[.slice a1 L1.length cc1, .int .i64 rs, .int .i64 er] ∧ IntsAt w4 a1 L1 ∧ L1.length ≤ cc1 ∧ Frm wz a2 L a1 L1 := hΦ 14 (by decide)
                  have p15 : ∃ a1 cc1, y15 = .slice a1 L1.length cc1 ∧ IntsAt w4 a1 L1 ∧ L1.length ≤ cc1 ∧ Frm wz a2 L a1 L1 := hΦ 15 (by decide)
                  have e16 : y16 = .int .i64 rs := hΦ 16 (by decide)
                  subst e16
                  have e17 : y17 = .int .i64 er := hΦ 17 (by decide)
                  subst e17
                  have p18 : ∃ a1 cc1, y18 = .slice a1 L1.length cc1 ∧ IntsAt w4 a1 L1 ∧ L1.length ≤ cc1 ∧ Frm wz a2 L a1 L1 := hΦ 18 (by decide)
                  have e19 : y19 = .int .i64 rs := hΦ 19 (by decide)
                  subst e19
                  clear hΦ hvs
                  simp only [putAll, Act.put, List.setIfInBounds_toArray, List.set_cons_succ, List.set_cons_zero]
                  obtain ⟨a5, c5, h15, hI5, hc5, hF5⟩ := p18
                  subst h15
                  obtain ⟨w5, rfl⟩ : ∃ W, W = w4 := ⟨_, rfl⟩
                  have HI5 := Lib.hid hI5
                  have HE5 := Lib.hid (Ext.trans HEz.out (show Ext wz w5 from hG))
                  have HF5 := Lib.hid hF5
                  have HC5 := Lib.hid hc5
                  clear hI5 hc5 hF5 p13 p14 p15 hG y3 yg n0 n1 m0 m1 x0 x1 x2 x3 x4 x5
                  have HEw := Lib.hid (Ext.trans HE3.out (Ext.trans HER.out HE5.out))
                  obtain ⟨x0, x1, x2, x3, x4, x5⟩ := HCM.out w5 HE5.out
                  by_cases her : er = 0
                  · subst her
                    have HF3 := Lib.hid (show (if en ≠ -1 ∧ rs ≠ re then 10 else folE k z l (O, L1) (order.drop (j + 1))) = R from by
                      have := HF2.out
                      rw [if_neg (by simp)] at this
                      exact this)
                    by_cases hbad : en ≠ -1 ∧ rs ≠ re
                    · have HRv := Lib.hid (show R = 10 by rw [← HF3.out, if_pos hbad])
                      have g4 : decide (0 ≤ en) = true := by simp; have := HEQ.out; omega
                      have g5 : (rs != re) = true := by rw [bne_iff_ne]; exact hbad.2
                      clear hbad
                      go_wp2
                      go_ret
                      exact ⟨by rw [HRv.out]; rfl, HEw.out⟩
                    · have HFN := Lib.hid (show folE k z l (O, L1) (order.drop (j + 1)) = R from by
                        have := HF3.out
                        rw [if_neg hbad] at this
                        exact this)
                      have hcase : (decide (0 ≤ en) = false) ∨ (decide (0 ≤ en) = true ∧ (rs != re) = false) := by
                        by_cases h0 : 0 ≤ en
                        · right
                          refine ⟨by simpa using h0, ?_⟩
                          by_cases h1 : rs = re
                          · simpa using h1
                          · exact absurd ⟨by omega, h1⟩ hbad
                        · left; simpa using h0
                      have HBX5 := Lib.hid ((HE5.out.below.block _ (lt_of_block HBX.out)).trans HBX.out)
                      have z0 : w5.cell? ⟨w3.heap.size, 0, none⟩ = some (.int .i64 (s : Int)) := cell_of HBX5.out rfl
                      have z1 : w5.cell? ⟨w3.heap.size, 1, none⟩ = some (.slice a2 L.length c2) := cell_of HBX5.out rfl
                      have f0 := free_of (i := 0) HBX5.out
                      have f1 := free_of (i := 1) HBX5.out
                      clear hbad
                      rcases hcase with g4 | ⟨g4, g5⟩
                      all_goals
                        go_wp2_with fail
                        go_still_tail 7, (by kernel_rfl)
                        go_wp2
                        obtain ⟨W', hW', h4, h5, h6⟩ := put2 HBX5.out rfl (.int .i64 (O : Int)) (.slice a5 L1.length c5)
                        rw [hW']
                        have hnew : L1 ≠ [] → ∀ x, a5 = some x → x.block ≠ w3.heap.size := fun hne x e => by
                          rcases HF5.out with h | ⟨h, h'⟩
                          · have h1 := h x e; have h2 := HEz.out.size; have h3 := lt_of_block HBX.out; omega
                          · rw [h'] at hne; exact HNA.out hne x (h ▸ e)
                        exact ⟨⟨j + 1, O, L1, a5, c5, by omega, by go_num, ⟨by rw [HNL.out]; exact HOL.out, HAK.out trivial⟩, HFN.out, (by
                          cases L1 with
                          | nil => exact IntsAt.nil
                          | cons y t => exact HI5.out.turn HBX5.out (fun j _ hj => h6 j hj) (fun x e => hnew (by simp) x e)), HC5.out, hnew, h4, (Below.trans (Ext.trans HER.out HE5.out) (h5 _ (Nat.le_refl _))).drew⟩, by simp [intOf]; omega⟩
                  · have HRv := Lib.hid (show R = er by rw [← HF2.out, if_pos her])
                    have g3 : (er != 0) = true := by rw [bne_iff_ne]; exact her
                    clear her
                    go_wp2
                    go_ret
                    exact ⟨by rw [HRv.out]; rfl, HEw.out⟩
            · have hjl : lo = j := by omega
              subst hjl
              have HRv := Lib.hid (show R = 0 by rw [← HFO.out, List.drop_of_length_le (by rw [HLO.out]; exact Nat.le_refl _)]; rfl)
              go_wp2
              go_ret
              exact ⟨by rw [HRv.out]; rfl, Ext.trans HE3.out HER.out⟩
  · have HN := Lib.hid (newS_bad k z l a c wk (HH.out wk HX.out) hlen hb)
    have HRv := Lib.hid (show R = srE k z l by rw [HR.out, if_pos hb])
    have g1 : (srE k z l != 0) = true := by rw [bne_iff_ne]; exact hb
    generalize srE k z l = E at *
    unfold maxLen at hlen
    clear h hb HR hwk hO HOI
    generalize order.length = lo at *
    obtain ⟨m0, m1⟩ := HMD.out wk (Below.refl _ _)
    go_enter Tryd.func21, Tryd.ntmps21
    go_wp2_with fail
    try rw [hwk']
    refine HN.out.mono ?_
    intro w1 hE
    have HE1 := Lib.hid (Ext.trans HX.out hE)
    clear hE m0 m1
    go_wp2
    go_ret
    exact ⟨by rw [HRv.out]; rfl, HE1.out⟩
end Go.Proofs.YtmbkjccckmlacaaDoor

namespace Go.Proofs.YtmbkjccckmlacaaDoor
open Go.RowKit
set_option linter.unusedVariables false
set_option linter.unusedSimpArgs false

theorem isState1_any (x : Int) (w : World) : Gives Tryd.prog 73 #[.int .i64 x] w (.bool (!inM x)) := by
  unfold Gives
  have C := inRange_any x w
  generalize inM x = b at *
  go_enter Tryd.func73, Tryd.ntmps73
  go_wp2_with fail
  refine C.mono ?_
  intro w2 hB2
  go_wp2
  go_ret
  exact ⟨rfl, hB2⟩
set_option maxHeartbeats 1000000 in
theorem indexOut_any (l : List Int) (a : Option Addr) (cap : Nat) (w : World) (hl : l.length ≤ maxLen) (h : IntsAt w a l) :
    Calls Tryd.prog 89 #[.slice a l.length cap, .func (.func 73) #[] #[]] w fun e w' => (∃ r : Int, e = .returned (.int .i64 r) ∧ decide (0 ≤ r) = !l.all inM) ∧ Below w.heap.size w w' := by
  unfold maxLen at hl
  go_enter Tryd.func89, Tryd.ntmps89
  go_wp2
  go_loopw [8] (fun i wr => ∃ j : Nat, j ≤ l.length ∧ i = .int .i64 j ∧ (l.take j).all inM = true ∧ Below w.heap.size w wr) (fun i _ => l.length - (intOf i).toNat)
  case atStart => exact ⟨0, Nat.zero_le _, rfl, by simp, Below.refl _ _⟩
  case round =>
    obtain ⟨j, hj, rfl, hA, hB⟩ := hrel
    by_cases hlt : j < l.length
    · obtain ⟨b, off, rfl, hc⟩ := (h.below hB).at hlt
      have hs : l.take (j + 1) = l.take j ++ [l[j]] := List.take_succ_eq_append_getElem hlt
      have HN := Lib.hid (show l[j] ∈ l from List.getElem_mem hlt)
      have HS := Lib.hid (show (l.take (j + 1)).all inM = (inM l[j]) by rw [hs, List.all_append, hA]; simp)
      clear hs
      generalize l[j] = x at *
      have C := isState1_any x
      cases hq : inM x with
      | false =>
        rw [hq] at C
        have HV := Lib.hid (show l.all inM = false from by
          cases h : l.all inM with
          | false => rfl
          | true => have := List.all_eq_true.1 h x HN.out; rw [hq] at this; cases this)
        go_wp2_with fail
        refine (C _).mono ?_
        intro w2 hB2
        go_wp2
        go_ret
        exact ⟨⟨_, rfl, by rw [HV.out]; simp⟩, hB.trans (hB2.mono hB.size)⟩
      | true =>
        rw [hq] at C
        go_wp2_with fail
        refine (C _).mono ?_
        intro w2 hB2
        go_wp2
        go_roundw
        case rel => exact ⟨j + 1, by omega, by go_num, by rw [HS.out, hq], hB.trans (hB2.mono hB.size)⟩
        case measure => simp [intOf]; omega
    · have hk : l.take j = l := List.take_of_length_le (by omega)
      rw [hk] at hA
      have HA := Lib.hid hA
      clear hA
      go_wp2
      go_ret
      exact ⟨⟨_, rfl, by rw [HA.out]; simp⟩, hB⟩
theorem containsOut_any (l : List Int) (a : Option Addr) (cap : Nat) (w : World) (hl : l.length ≤ maxLen) (h : IntsAt w a l) :
    Gives Tryd.prog 72 #[.slice a l.length cap, .func (.func 73) #[] #[]] w (.bool (!l.all inM)) := by
  unfold Gives
  have C := Lib.hid (indexOut_any l a cap w hl h)
  generalize (!l.all inM) = b at *
  generalize l.length = n at *
  clear h
  go_enter Tryd.func72, Tryd.ntmps72
  go_wp2_with fail
  refine C.out.mono ?_
  rintro e w2 ⟨⟨r, rfl, hr⟩, hB2⟩
  go_wp2
  go_ret
  exact ⟨rfl, hB2⟩
theorem ascL_adj : ∀ {l : List Int}, ascL l = true ↔ ∀ i (h : i + 1 < l.length), l[i] < l[i + 1]
  | [] => by simp [ascL]
  | [x] => by simp [ascL]
  | x :: y :: t => by
    rw [ascL, Bool.and_eq_true, decide_eq_true_eq, ascL_adj]
    constructor
    · rintro ⟨h1, h2⟩ i h
      cases i with
      | zero => exact h1
      | succ i => exact h2 i (by simpa using h)
    · intro h
      exact ⟨h 0 (by simp), fun i hi => h (i + 1) (by simpa using hi)⟩
set_option maxRecDepth 100000 in
set_option maxHeartbeats 4000000 in
theorem isState_any (k z : Int) (l : List Int) (a : Option Addr) (c : Nat) (w : World) (hk1 : 1 ≤ k) (hk6 : k ≤ 6) (hl : l.length ≤ maxLen) (hA : IntsAt w a l) :
    Gives Tryd.prog 49 #[.agg #[.int .i64 k, .int .i64 z], .slice a l.length c] w (.bool (stR k z l)) := by
  unfold Gives
  have HX := Lib.hid (ext_allocN w (.cells #[.int .i64 k, .int .i64 z] 23))
  have HMD := Lib.hid (mdCells w k z)
  have HAA := Lib.hid (fun W (hW : Ext w W) => hA.ext hW)
  have KC := Lib.hid (fun W (hW : Ext w W) => containsOut_any l a c W hl (hA.ext hW))
  have HR := Lib.hid (show stR k z l = (l.all inM && (if k = 1 ∨ k = 2 then decide (l.length = 1) else if k = 6 then decide (l = [0] ∨ l = [1]) else decide (l.length ≤ 100 ∧ (z ≤ 0 ∨ (l.length : Int) ≤ z)) && (decide (k ≠ 5) || ascL l))) from rfl)
  generalize stR k z l = R at *
  obtain ⟨len, hlen⟩ : ∃ n, l.length = n := ⟨_, rfl⟩
  rw [hlen] at KC HR hl ⊢
  have HL := Lib.hid hlen
  unfold maxLen at hl
  clear hlen hA
  cases hall : l.all inM with
  | false =>
    rw [hall] at KC
    have HRv := Lib.hid (show R = false by rw [HR.out, hall]; rfl)
    clear HR hall
    go_enter Tryd.func49, Tryd.ntmps49
    go_wp2_with fail
    refine (KC.out _ HX.out).mono ?_
    intro w2 hE2
    have HE2 := Lib.hid (Ext.trans HX.out hE2)
    clear hE2
    go_wp2
    go_ret
    exact ⟨by rw [HRv.out]; rfl, HE2.out⟩
  | true =>
    rw [hall] at KC
    have HR1 := Lib.hid (show R = (if k = 1 ∨ k = 2 then decide (len = 1) else if k = 6 then decide (l = [0] ∨ l = [1]) else decide (len ≤ 100 ∧ (z ≤ 0 ∨ (len : Int) ≤ z)) && (decide (k ≠ 5) || ascL l)) by rw [HR.out, hall]; rfl)
    clear HR hall
    have hkk : k = 1 ∨ k = 2 ∨ k = 6 ∨ k = 3 ∨ k = 4 ∨ k = 5 := by omega
    clear hk1 hk6
    rcases hkk with rfl | rfl | rfl | hk
    · have HRv := Lib.hid (show R = decide (len = 1) by rw [HR1.out]; rfl)
      clear HR1
      have g1 : ((len : Int) == 1) = decide (len = 1) := by rw [Bool.eq_iff_iff]; simp; omega
      generalize decide (len = 1) = b at *
      go_enter Tryd.func49, Tryd.ntmps49
      go_wp2_with fail
      refine (KC.out _ HX.out).mono ?_
      intro w2 hE2
      obtain ⟨m0, m1⟩ := HMD.out w2 hE2
      have HE2 := Lib.hid (Ext.trans HX.out hE2)
      clear hE2
      go_wp2
      go_ret
      exact ⟨by rw [HRv.out]; rfl, HE2.out⟩
    · have HRv := Lib.hid (show R = decide (len = 1) by rw [HR1.out]; rfl)
      clear HR1
      have g1 : ((len : Int) == 1) = decide (len = 1) := by rw [Bool.eq_iff_iff]; simp; omega
      generalize decide (len = 1) = b at *
      go_enter Tryd.func49, Tryd.ntmps49
      go_wp2_with fail
      refine (KC.out _ HX.out).mono ?_
      intro w2 hE2
      obtain ⟨m0, m1⟩ := HMD.out w2 hE2
      have HE2 := Lib.hid (Ext.trans HX.out hE2)
      clear hE2
      go_wp2
      go_ret
      exact ⟨by rw [HRv.out]; rfl, HE2.out⟩
    · have HRv := Lib.hid (show R = decide (l = [0] ∨ l = [1]) by rw [HR1.out]; rfl)
      clear HR1
      by_cases h1 : len = 1
      · subst h1
        match l, HL.out with
        | [x], _ =>
          obtain ⟨b, off, ha, -⟩ := HAA.out w (Below.refl _ _) 0 (by simp)
          subst ha
          have HC0 := Lib.hid (fun W (hW : Ext w W) => show W.cell? ⟨b, off, none⟩ = some (.int .i64 x) from by
            obtain ⟨b', off', e, hc⟩ := HAA.out W hW 0 (by simp)
            cases e
            exact hc)
          have HRw := Lib.hid (show R = (decide (x = 0) || decide (x = 1)) by rw [HRv.out]; simp)
          clear HRv HAA HL
          go_enter Tryd.func49, Tryd.ntmps49
          go_wp2_with fail
          refine (KC.out _ HX.out).mono ?_
          intro w2 hE2
          obtain ⟨m0, m1⟩ := HMD.out w2 hE2
          have HE2 := Lib.hid (Ext.trans HX.out hE2)
          have c0 := HC0.out w2 HE2.out
          clear hE2
          by_cases hx0 : x = 0
          · have g1 : (x == 0) = true := by simpa using hx0
            have HRx := Lib.hid (show R = true by rw [HRw.out, hx0]; rfl)
            clear hx0
            go_wp2
            go_ret
            exact ⟨by rw [HRx.out]; rfl, HE2.out⟩
          · have g1 : (x == 0) = false := by simpa using hx0
            by_cases hx1 : x = 1
            · have g2 : (x == 1) = true := by simpa using hx1
              have HRx := Lib.hid (show R = true by rw [HRw.out, hx1]; rfl)
              clear hx0 hx1
              go_wp2
              go_ret
              exact ⟨by rw [HRx.out]; rfl, HE2.out⟩
            · have g2 : (x == 1) = false := by simpa using hx1
              have HRx := Lib.hid (show R = false by rw [HRw.out]; simp [hx0, hx1])
              clear hx0 hx1
              go_wp2
              go_ret
              exact ⟨by rw [HRx.out]; rfl, HE2.out⟩
      · have g1 : ((len : Int) == 1) = false := by simp; omega
        have HRx := Lib.hid (show R = false by
          rw [HRv.out, decide_eq_false_iff_not]
          rintro (e | e) <;> rw [← HL.out, e] at h1 <;> exact h1 rfl)
        clear HRv h1
        go_enter Tryd.func49, Tryd.ntmps49
        go_wp2_with fail
        refine (KC.out _ HX.out).mono ?_
        intro w2 hE2
        obtain ⟨m0, m1⟩ := HMD.out w2 hE2
        have HE2 := Lib.hid (Ext.trans HX.out hE2)
        clear hE2
        go_wp2
        go_ret
        exact ⟨by rw [HRx.out]; rfl, HE2.out⟩
    · have HRv := Lib.hid (show R = (decide (len ≤ 100 ∧ (z ≤ 0 ∨ (len : Int) ≤ z)) && (decide (k ≠ 5) || ascL l)) by rw [HR1.out, if_neg (by omega), if_neg (by omega)])
      clear HR1
      have d1 : (k == 1) = false := by simp; omega
      have d2 : (k == 2) = false := by simp; omega
      have d6 : (k == 6) = false := by simp; omega
      by_cases h100 : 100 < len
      · have g1 : decide ((100 : Int) < (len : Int)) = true := by simp; omega
        have HRx := Lib.hid (show R = false by rw [HRv.out, decide_eq_false (by omega)]; rfl)
        clear HRv h100 hk
        go_enter Tryd.func49, Tryd.ntmps49
        go_wp2_with fail
        refine (KC.out _ HX.out).mono ?_
        intro w2 hE2
        obtain ⟨m0, m1⟩ := HMD.out w2 hE2
        have HE2 := Lib.hid (Ext.trans HX.out hE2)
        clear hE2
        go_wp2
        go_ret
        exact ⟨by rw [HRx.out]; rfl, HE2.out⟩
      · have g1 : decide ((100 : Int) < (len : Int)) = false := by simp; omega
        by_cases hzz : 0 < z ∧ z < (len : Int)
        · have g2 : decide (0 < z) = true := by simpa using hzz.1
          have g3 : decide (z < (len : Int)) = true := by simpa using hzz.2
          have HRx := Lib.hid (show R = false by rw [HRv.out, decide_eq_false (by omega)]; rfl)
          clear HRv h100 hk hzz
          go_enter Tryd.func49, Tryd.ntmps49
          go_wp2_with fail
          refine (KC.out _ HX.out).mono ?_
          intro w2 hE2
          obtain ⟨m0, m1⟩ := HMD.out w2 hE2
          have HE2 := Lib.hid (Ext.trans HX.out hE2)
          clear hE2
          go_wp2
          go_ret
          exact ⟨by rw [HRx.out]; rfl, HE2.out⟩
        · have hcase : decide (0 < z) = false ∨ (decide (0 < z) = true ∧ decide (z < (len : Int)) = false) := by
            by_cases h0 : 0 < z
            · right; exact ⟨by simpa using h0, by simp; omega⟩
            · left; simpa using h0
          have HRw := Lib.hid (show R = (decide (k ≠ 5) || ascL l) by rw [HRv.out, decide_eq_true (by omega)]; rfl)
          clear HRv hzz
          rcases hk with rfl | rfl | rfl
          · have HRx := Lib.hid (show R = true by rw [HRw.out]; rfl)
            clear HRw h100
            rcases hcase with g2 | ⟨g2, g3⟩
            all_goals
              go_enter Tryd.func49, Tryd.ntmps49
              go_wp2_with fail
              refine (KC.out _ HX.out).mono ?_
              intro w2 hE2
              obtain ⟨m0, m1⟩ := HMD.out w2 hE2
              have HE2 := Lib.hid (Ext.trans HX.out hE2)
              clear hE2
              go_wp2
              go_ret
              exact ⟨by rw [HRx.out]; rfl, HE2.out⟩
          · have HRx := Lib.hid (show R = true by rw [HRw.out]; rfl)
            clear HRw h100
            rcases hcase with g2 | ⟨g2, g3⟩
            all_goals
              go_enter Tryd.func49, Tryd.ntmps49
              go_wp2_with fail
              refine (KC.out _ HX.out).mono ?_
              intro w2 hE2
              obtain ⟨m0, m1⟩ := HMD.out w2 hE2
              have HE2 := Lib.hid (Ext.trans HX.out hE2)
              clear hE2
              go_wp2
              go_ret
              exact ⟨by rw [HRx.out]; rfl, HE2.out⟩
          · have HRx := Lib.hid (show R = ascL l by rw [HRw.out]; simp)
            clear HRw h100
            rcases hcase with g2 | ⟨g2, g3⟩
            all_goals
              go_enter Tryd.func49, Tryd.ntmps49
              go_wp2_with fail
              refine (KC.out _ HX.out).mono ?_
              intro w2 hE2
              obtain ⟨m0, m1⟩ := HMD.out w2 hE2
              have HE2 := Lib.hid (Ext.trans HX.out hE2)
              clear hE2
              go_wp2_with fail
              go_loopw [5] (fun i wr => ∃ q : Nat, i = .int .i64 ((q : Int) + 1) ∧ q ≤ len ∧ (∀ i (h : i + 1 < l.length), i < q → l[i] < l[i + 1]) ∧ Ext w2 wr) (fun i _ => len - (intOf i).toNat)
              case atStart => exact ⟨0, rfl, Nat.zero_le _, fun i h h' => by omega, Below.refl _ _⟩
              case round =>
                obtain ⟨q, rfl, hql, hin, hEr⟩ := hrel
                have HIN := Lib.hid hin
                have HER := Lib.hid (Ext.trans HE2.out hEr)
                have HER2 := Lib.hid hEr
                clear hin hEr
                by_cases hlt : q + 1 < len
                · have hjl : q + 1 < l.length := by rw [HL.out]; exact hlt
                  obtain ⟨b, off, ha, hc0⟩ := HAA.out wr HER.out q (by omega)
                  obtain ⟨b', off', ha', hc1⟩ := HAA.out wr HER.out (q + 1) hjl
                  rw [ha] at ha'
                  cases ha'
                  subst ha
                  have hc1' : wr.cell? ⟨b, off + q + 1, none⟩ = some (.int .i64 l[q + 1]) := hc1
                  have hq0 : (0 : Int) ≤ (q : Int) := by omega
                  have hq1 : (q : Int) < (len : Int) := by omega
                  have hq2 : (0 : Int) ≤ (q : Int) + 1 := by omega
                  have hq3 : (q : Int) + 1 < (len : Int) := by omega
                  have hn1 : ((q : Int) + 1).toNat = q + 1 := by omega
                  have HSX := Lib.hid (fun (h : l[q] < l[q + 1]) => show ∀ i (h : i + 1 < l.length), i < q + 1 → l[i] < l[i + 1] from fun i hi h' => by
                    by_cases e : i = q
                    · subst e; exact h
                    · exact HIN.out i hi (by omega))
                  have HSY := Lib.hid (fun (h : ¬ l[q] < l[q + 1]) => show R = false by
                    rw [HRx.out]
                    cases ha : ascL l with
                    | false => rfl
                    | true => exact absurd (ascL_adj.1 ha q hjl) h)
                  generalize l[q] = x at *
                  generalize l[q + 1] = y at *
                  by_cases hxy : x < y
                  · have g7 : decide (y ≤ x) = false := by simp; omega
                    have HS1 := Lib.hid (HSX.out hxy)
                    clear hxy
                    go_wp2_with fail
                    go_quiet (fail)
                    go_wp2
                    exact ⟨⟨q + 1, by go_num, by omega, HS1.out, Ext.drewN' HER2.out⟩, by simp [intOf]; omega⟩
                  · have g7 : decide (y ≤ x) = true := by simp; omega
                    have HS1 := Lib.hid (HSY.out hxy)
                    clear hxy
                    go_wp2_with fail
                    go_quiet (fail)
                    go_wp2
                    go_ret
                    exact ⟨by rw [HS1.out]; rfl, Ext.drewN' HER.out⟩
                · have hge : ¬ ((q : Int) + 1 < (len : Int)) := by omega
                  have HRy := Lib.hid (show R = true by rw [HRx.out, ascL_adj]; exact fun i h => HIN.out i h (by rw [HL.out] at h; omega))
                  go_wp2
                  go_ret
                  exact ⟨by rw [HRy.out]; rfl, HER.out⟩
end Go.Proofs.YtmbkjccckmlacaaDoor

namespace Go.Proofs.YtmbkjccckmlacaaDoor
open Go.RowKit
set_option linter.unusedVariables false
set_option linter.unusedSimpArgs false

/-- what Apply returns -/
def apR (k z : Int) (l : List Int) (m a : Int) : List Int × Int × Int := if mdE k z ≠ 0 then ([], 0, mdE k z) else if stR k z l = false then ([], 0, 1) else apM k z l m a
theorem st_len {k z : Int} {l : List Int} (h : stR k z l = true) : l.length ≤ 100 := by
  unfold stR at h
  simp only [Bool.and_eq_true] at h
  obtain ⟨-, h⟩ := h
  split at h
  · have := of_decide_eq_true h; omega
  · split at h
    · rcases of_decide_eq_true h with rfl | rfl <;> simp
    · simp only [Bool.and_eq_true, decide_eq_true_eq] at h
      exact h.1.1
theorem insM_len (z : Int) (l : List Int) (i : Nat) (x : Int) : (insM z l i x).1.length ≤ l.length + 1 := by
  unfold insM
  by_cases h1 : 0 < z ∧ z ≤ l.length
  · rw [if_pos h1]; dsimp only; omega
  · rw [if_neg h1]
    by_cases h2 : 100 ≤ l.length
    · rw [if_pos h2]; simp
    · rw [if_neg h2]; simp only [List.length_append, List.length_take, List.length_cons, List.length_drop]; omega
theorem erase_len (l : List Int) (i : Nat) : (l.eraseIdx i).length ≤ l.length + 1 := by
  rw [List.length_eraseIdx]
  split <;> omega
theorem remM_len (l : List Int) (i : Nat) : (remM l i).1.length ≤ l.length + 1 := by
  unfold remM
  by_cases h1 : l = []
  · rw [if_pos h1]; dsimp only; omega
  · rw [if_neg h1]; exact erase_len l i
theorem len_ite {c : Prop} [Decidable c] {x y : List Int × Int × Int} {n : Nat} (hx : x.1.length ≤ n) (hy : y.1.length ≤ n) : (if c then x else y).1.length ≤ n := by
  by_cases h : c
  · rw [if_pos h]; exact hx
  · rw [if_neg h]; exact hy
theorem apM_len (k z : Int) (l : List Int) (m a : Int) : (apM k z l m a).1.length ≤ l.length + 1 := by
  have h1 : ∀ (x : Int) (y z : Int), (([x], y, z) : List Int × Int × Int).1.length ≤ l.length + 1 := fun x y z => by simp
  have h0 : ∀ (y z : Int), (([], y, z) : List Int × Int × Int).1.length ≤ l.length + 1 := fun y z => by simp
  have hl : ∀ (y z : Int), ((l, y, z) : List Int × Int × Int).1.length ≤ l.length + 1 := fun y z => Nat.le_succ _
  unfold apM
  refine len_ite (h0 _ _) (len_ite (h0 _ _) (len_ite (len_ite (hl _ _) (h1 _ _ _)) (len_ite (len_ite (hl _ _) (len_ite (h1 _ _ _) (h0 _ _))) (len_ite (len_ite (insM_len _ _ _ _) (remM_len _ _)) (len_ite (len_ite (insM_len _ _ _ _) (remM_len _ _)) (len_ite (len_ite (len_ite (hl _ _) (insM_len _ _ _ _)) (len_ite (len_ite (erase_len _ _) (hl _ _)) (hl _ _))) (len_ite (len_ite (h1 _ _ _) (h0 _ _)) (len_ite (h1 _ _ _) (h0 _ _)))))))))
/-- a row of the call's own, a number, an error -/
def AyP (w : World) (R : List Int × Int × Int) (e : Ending) (w' : World) : Prop := ∃ v, e = .returned (.tuple #[v, .int .i64 R.2.1, .int .i64 R.2.2]) ∧ RowI w.heap.size v R.1 w' ∧ Ext w w'
set_option maxRecDepth 100000 in
set_option maxHeartbeats 4000000 in
theorem Apply_any (k z : Int) (l : List Int) (m arg : Int) (a : Option Addr) (c : Nat) (w : World) (hl : l.length ≤ maxLen) (hA : IntsAt w a l) (hc : l.length ≤ c) :
    Calls Tryd.prog 23 #[.agg #[.int .i64 k, .int .i64 z], .slice a l.length c, .int .i64 m, .int .i64 arg] w (AyP w (apR k z l m arg)) := by
  have HX := Lib.hid (ext_allocN w (.cells #[.int .i64 k, .int .i64 z] 23))
  have HMD := Lib.hid (mdCells w k z)
  have KM := Lib.hid (fun W => checkModel_any k z W)
  have KI := Lib.hid (fun W (hW : Ext w W) (h1 : 1 ≤ k) (h6 : k ≤ 6) => isState_any k z l a c W h1 h6 hl (hA.ext hW))
  have KP := Lib.hid (fun W (hW : Ext w W) (h1 : 1 ≤ k) (h6 : k ≤ 6) (hs : stR k z l = true) => apply_any k z l m arg a c W h1 h6 hs (hA.ext hW) hc)
  have HLN := Lib.hid (fun (hs : stR k z l = true) => show (apM k z l m arg).1.length ≤ 1000000000 from by have := apM_len k z l m arg; have := st_len hs; omega)
  have HR := Lib.hid (show apR k z l m arg = if mdE k z ≠ 0 then ([], 0, mdE k z) else if stR k z l = false then ([], 0, 1) else apM k z l m arg from rfl)
  have HMK := Lib.hid (fun (h : mdE k z = 0) => mdE_k h)
  generalize apR k z l m arg = R at *
  generalize apM k z l m arg = Z at *
  generalize l.length = len at *
  unfold maxLen at hl
  unfold AyP
  clear hA
  obtain ⟨wk, hwk⟩ : ∃ W, W = w.alloc (.cells #[.int .i64 k, .int .i64 z] 23) := ⟨_, rfl⟩
  have hwk' := hwk.symm
  rw [hwk'] at HX HMD
  clear hwk
  obtain ⟨m0, m1⟩ := HMD.out wk (Below.refl _ _)
  by_cases hm : mdE k z = 0
  · obtain ⟨hk1, hk6⟩ := HMK.out hm
    rw [hm] at KM HR
    cases hs : stR k z l with
    | false =>
      rw [hs] at KI HR
      have HRv := Lib.hid (show R = ([], 0, 1) by rw [HR.out]; rfl)
      clear HR KP HLN hm hs
      go_enter Tryd.func23, Tryd.ntmps23
      go_wp2_with fail
      try rw [hwk']
      refine (KM.out _).mono ?_
      intro w2 hE2
      have HX2 := Lib.hid hE2
      have HE2 := Lib.hid (Ext.trans HX.out hE2)
      clear hE2 m0 m1
      obtain ⟨m0, m1⟩ := HMD.out w2 HX2.out
      go_wp2_with fail
      refine (KI.out _ HE2.out hk1 hk6).mono ?_
      intro w3 hE3
      have HE3 := Lib.hid (Ext.trans HE2.out hE3)
      clear hE3 m0 m1
      go_wp2
      go_ret3
      obtain rfl := HRv.out
      exact ⟨_, rfl, RowI.nil _ _, HE3.out⟩
    | true =>
      rw [hs] at KI
      have HRv := Lib.hid (show R = Z by rw [HR.out, if_neg (by simp), if_neg (by rw [hs]; simp)])
      have HP := Lib.hid (fun W (hW : Ext w W) => KP.out W hW hk1 hk6 hs)
      have HZL := Lib.hid (HLN.out hs)
      have HKI := Lib.hid (fun W (hW : Ext w W) => KI.out W hW hk1 hk6)
      clear HR KP HLN hm hs KI
      obtain ⟨Z1, rs, er⟩ := Z
      unfold ApP at HP
      dsimp only at HP HZL
      go_enter Tryd.func23, Tryd.ntmps23
      go_wp2_with fail
      try rw [hwk']
      refine (KM.out _).mono ?_
      intro w2 hE2
      have HX2 := Lib.hid hE2
      have HE2 := Lib.hid (Ext.trans HX.out hE2)
      clear hE2 m0 m1
      obtain ⟨m0, m1⟩ := HMD.out w2 HX2.out
      go_wp2_with fail
      refine (HKI.out _ HE2.out).mono ?_
      intro w3 hE3
      have HX3 := Lib.hid (Ext.trans HX2.out hE3)
      have HE3 := Lib.hid (Ext.trans HE2.out hE3)
      clear hE3 m0 m1
      obtain ⟨m0, m1⟩ := HMD.out w3 HX3.out
      go_wp2_with fail
      refine (HP.out _ HE3.out).mono ?_
      rintro e w4 ⟨a4, c4, rfl, hI4, hc4, hE4, hF4⟩
      have HE4 := Lib.hid (Ext.trans HE3.out hE4)
      have KL := Lib.hid (CloneI_row Z1 a4 c4 w4 HZL.out hI4)
      generalize Z1.length = lz at *
      clear hE4 hI4 hc4 hF4 m0 m1
      go_wp2_with fail
      refine KL.out.mono ?_
      rintro e w5 ⟨v5, rfl, hr5, hE5⟩
      have HRW := Lib.hid (hr5.le HE4.out.size)
      have HE5 := Lib.hid (Ext.trans HE4.out hE5)
      clear hr5 hE5
      go_wp2
      go_ret3
      obtain rfl := HRv.out
      exact ⟨_, rfl, HRW.out, HE5.out⟩
  · have HRv := Lib.hid (show R = ([], 0, mdE k z) by rw [HR.out, if_pos hm])
    have g1 : (mdE k z != 0) = true := by rw [bne_iff_ne]; exact hm
    clear HR KP HLN hm KI HMK
    generalize mdE k z = E at *
    go_enter Tryd.func23, Tryd.ntmps23
    go_wp2_with fail
    try rw [hwk']
    refine (KM.out _).mono ?_
    intro w2 hE2
    have HE2 := Lib.hid (Ext.trans HX.out hE2)
    clear hE2 m0 m1
    go_wp2
    go_ret3
    obtain rfl := HRv.out
    exact ⟨_, rfl, RowI.nil _ _, HE2.out⟩
end Go.Proofs.YtmbkjccckmlacaaDoor

namespace Go.Proofs.YtmbkjccckmlacaaDoor
open Go.RowKit
set_option linter.unusedVariables false
set_option linter.unusedSimpArgs false

/-- the reference's initial state -/
def rIni (k : Int) : List Int := if k = 1 ∨ k = 2 ∨ k = 6 then [0] else []
theorem rIni_eq {k z : Int} (h : mdE k z = 0) : rIni k = iniR k := by
  obtain ⟨h1, h6⟩ := mdE_k h
  unfold rIni iniR lsM
  have : k = 1 ∨ k = 2 ∨ k = 3 ∨ k = 4 ∨ k = 5 ∨ k = 6 := by omega
  rcases this with rfl | rfl | rfl | rfl | rfl | rfl <;> rfl
theorem RowI.lit1 (w W : World) (x : Int) (base : Nat) (hb : base ≤ W.heap.size) : RowI base (.slice (some ⟨W.heap.size, 0, none⟩) 1 1) [x] (W.alloc (.cells #[.int .i64 x] 3)) :=
  World.ownsRow_lit W #[.int .i64 x] 1 hb (by unfold maxLen; omega) (by simp)
theorem refInitial_any (k z : Int) (w : World) : Calls Tryd.prog 28 #[.agg #[.int .i64 k, .int .i64 z]] w (fun e w' => ∃ v, e = .returned v ∧ RowI w.heap.size v (rIni k) w' ∧ Ext w w') := by
  have HX := Lib.hid (ext_allocN w (.cells #[.int .i64 k, .int .i64 z] 23))
  have c0 := mdb0 w k z
  have HR := Lib.hid (show rIni k = if k = 1 ∨ k = 2 ∨ k = 6 then [0] else [] from rfl)
  generalize rIni k = R at *
  by_cases h1 : k = 1
  · have HRv := Lib.hid (show R = [0] by rw [HR.out, if_pos (Or.inl h1)])
    have d1 : (k == 1) = true := by simpa using h1
    clear h1 HR
    go_enter Tryd.func28, Tryd.ntmps28
    go_wp2
    go_ret
    obtain rfl := HRv.out
    exact ⟨_, rfl, by have := RowI.lit1 w (w.alloc (.cells #[.int .i64 k, .int .i64 z] 23)) 0 w.heap.size (by simp); simpa using this, HX.out.alloc (by simp) _⟩
  · have d1 : (k == 1) = false := by simpa using h1
    by_cases h2 : k = 2
    · have HRv := Lib.hid (show R = [0] by rw [HR.out, if_pos (Or.inr (Or.inl h2))])
      have d2 : (k == 2) = true := by simpa using h2
      clear h1 h2 HR
      go_enter Tryd.func28, Tryd.ntmps28
      go_wp2
      go_ret
      obtain rfl := HRv.out
      exact ⟨_, rfl, by have := RowI.lit1 w (w.alloc (.cells #[.int .i64 k, .int .i64 z] 23)) 0 w.heap.size (by simp); simpa using this, HX.out.alloc (by simp) _⟩
    · have d2 : (k == 2) = false := by simpa using h2
      by_cases h6 : k = 6
      · have HRv := Lib.hid (show R = [0] by rw [HR.out, if_pos (Or.inr (Or.inr h6))])
        have d6 : (k == 6) = true := by simpa using h6
        clear h1 h2 h6 HR
        go_enter Tryd.func28, Tryd.ntmps28
        go_wp2
        go_ret
        obtain rfl := HRv.out
        exact ⟨_, rfl, by have := RowI.lit1 w (w.alloc (.cells #[.int .i64 k, .int .i64 z] 23)) 0 w.heap.size (by simp); simpa using this, HX.out.alloc (by simp) _⟩
      · have d6 : (k == 6) = false := by simpa using h6
        have HRv := Lib.hid (show R = [] by rw [HR.out, if_neg (by omega)])
        clear h1 h2 h6 HR
        go_enter Tryd.func28, Tryd.ntmps28
        go_wp2
        go_ret
        obtain rfl := HRv.out
        exact ⟨_, rfl, RowI.nil _ _, HX.out⟩
/-- all blocks but rows of operations are as they were -/
def KeptOp (w w' : World) : Prop := w.heap.size ≤ w'.heap.size ∧ ∀ (b : Nat) o, w.heap[b]? = some o → (∀ c f, o ≠ .cells c tOp f) → w'.heap[b]? = some o
theorem KeptOp.of_ext {w w' : World} (h : Ext w w') : KeptOp w w' := ⟨h.size, fun b o hb _ => (h.below.block b (lt_of_block hb)).trans hb⟩
theorem KeptOp.trans {a b c : World} (h : KeptOp a b) (g : KeptOp b c) : KeptOp a c := ⟨Nat.le_trans h.1 g.1, fun k o hk hn => g.2 k o (h.2 k o hk hn) hn⟩
theorem RowI.keptOp {base : Nat} {v : Value} {l : List Int} {w w' : World} (h : RowI base v l w) (hk : KeptOp w w') : RowI base v l w' := by
  obtain ⟨h1, h2⟩ := h
  refine ⟨h1, ?_⟩
  rcases h2 with h2 | ⟨b, cap, cur, rfl, hb, hg, hn, hm, hs, ht⟩
  · exact .inl h2
  · exact .inr ⟨b, cap, cur, rfl, hb, hk.2 _ _ hg (fun c f e => by cases e), hn, hm, hs, ht⟩
variable {ops : Array Oper} {rest : List Oper} {o : Oper} {a : Act} {Q : Exit → Act → World → Prop}
theorem wp_appOK (hgd : o.guard = none) (s x : Operand) (ho : o.op = .call { callee := .builtin .append, args := #[s, x], argTypes := #[24, 24] })
    (base : Nat) (v : Value) (l : List Cl) (hs : a.eval s = v) (W : World) (h : RowO base v l W) (r : Cl) (g : Nat) (hgs : g = W.heap.size) (hx : a.eval x = .slice (some ⟨g, 0, none⟩) 1 1) (hlen : l.length ≤ 1000000000) (hbase : base ≤ W.heap.size)
    (hK : ∀ v' w', RowO base v' (l ++ [r]) w' → Below base W w' → KeptOp W w' → wpList Tryd.prog ops Q rest (a.put o.dst v') w') : wpList Tryd.prog ops Q (o :: rest) a (W.alloc (cClO r)) := by
  subst hgs
  obtain ⟨i0, hi, hz0, hz1, hz2⟩ := info_parts infoOp
  have hrow : RowO base v l (W.alloc (cClO r)) := h.ext (ext_allocN _ _)
  have hg0 := alloc_here W (cClO r)
  refine wpList_append_own _ hgd s x 24 ho base 48 i0 (.agg #[.int .i64 0, .int .i64 0, .int .i64 0, .int .i64 0, .int .i64 0, .int .i64 0]) 6 48 Tryd.underlying24 hi hz0 hz1 hz2 rfl (by decide) v l.length (l.flatMap cOp) hs hrow ⟨W.heap.size, 0, none⟩ 1 1 (cOp r) hx rfl (fun j u hu => ?_) (fun u hu => ?_) (by unfold maxLen; omega) (by omega) (by simp; omega) ?_
  · have e : (⟨W.heap.size, 0, none⟩ : Addr).add j = ⟨W.heap.size, j, none⟩ := by unfold Addr.add; split <;> simp_all
    rw [e]
    refine cell_of hg0 ?_
    simpa [cOp] using hu
  · simp only [cOp, List.mem_cons, List.not_mem_nil, or_false] at hu
    rcases hu with rfl | rfl | rfl | rfl | rfl | rfl <;> rfl
  · intro v' w' hown hg _
    refine hK v' w' ?_ ?_ ?_
    · unfold RowO
      simpa [List.flatMap_append] using hown
    · exact ((Below.refl base W).alloc hbase _).grown hg (by simp; omega) (fun k e => (World.ownsRow.lt hrow k e).1)
    · refine (KeptOp.of_ext (ext_allocN W _)).trans ⟨hg.size, fun b ob hb hne => (hg.block b (lt_of_block hb) (fun e => ?_)).trans hb⟩
      rcases hrow.2 with ⟨rfl, _⟩ | ⟨g, cap, cur, rfl, _, hgb, _⟩
      · simp [Value.ownBlock] at e
      · obtain rfl : g = b := by simpa [Value.ownBlock] using e.symm
        rw [hgb] at hb
        exact hne _ _ (Option.some.inj hb).symm

/-- the states of a sequential history -/
def stQ (k z : Int) (cs : List (Int × Int)) : Nat → List Int
  | 0 => rIni k
  | j + 1 => match cs[j]? with
    | some c => (apR k z (stQ k z cs j) c.1 c.2).1
    | none => stQ k z cs j
def erQ (k z : Int) (cs : List (Int × Int)) (j : Nat) : Int := match cs[j]? with
  | some c => (apR k z (stQ k z cs j) c.1 c.2).2.2
  | none => 0
def clQ (k z : Int) (cs : List (Int × Int)) (j : Nat) : Cl := match cs[j]? with
  | some c => ⟨(j : Int) % 3, c.1, c.2, (apR k z (stQ k z cs j) c.1 c.2).2.1, 2 * (j : Int), 2 * (j : Int) + 1⟩
  | none => ⟨0, 0, 0, 0, 0, 0⟩
def hQ (k z : Int) (cs : List (Int × Int)) (j : Nat) : List Cl := (List.range j).map (clQ k z cs)
def okQ (k z : Int) (cs : List (Int × Int)) (j : Nat) : Bool := (List.range j).all fun i => decide (erQ k z cs i = 0)
theorem hQ_succ (k z : Int) (cs : List (Int × Int)) (j : Nat) : hQ k z cs (j + 1) = hQ k z cs j ++ [clQ k z cs j] := by simp [hQ, List.range_succ]
theorem okQ_succ (k z : Int) (cs : List (Int × Int)) (j : Nat) : okQ k z cs (j + 1) = (okQ k z cs j && decide (erQ k z cs j = 0)) := by simp [okQ, List.range_succ]
theorem okQ_no {k z : Int} {cs : List (Int × Int)} {j n : Nat} (h : j < n) (he : erQ k z cs j ≠ 0) : okQ k z cs n = false := by
  cases hc : okQ k z cs n with
  | false => rfl
  | true =>
    have := List.all_eq_true.1 hc j (List.mem_range.2 h)
    exact absurd (of_decide_eq_true this) he
theorem stQ_len {k z : Int} {cs : List (Int × Int)} {j : Nat} (h : okQ k z cs j = true) : (stQ k z cs j).length ≤ 101 := by
  cases j with
  | zero => unfold stQ rIni; split <;> simp
  | succ j =>
    rw [okQ_succ, Bool.and_eq_true] at h
    have he := of_decide_eq_true h.2
    unfold erQ at he
    unfold stQ
    have := stQ_len h.1
    cases hc : cs[j]? with
    | none => simp only [hc]; omega
    | some c =>
      simp only [hc] at he ⊢
      unfold apR at he ⊢
      by_cases h1 : mdE k z = 0
      · rw [if_neg (by simpa using h1)] at he ⊢
        cases hs : stR k z (stQ k z cs j) with
        | false => rw [if_pos hs] at he; simp at he
        | true =>
          rw [if_neg (by simp [hs])]
          have h2 := st_len hs
          have h3 := apM_len k z (stQ k z cs j) c.1 c.2
          omega
      · rw [if_pos h1] at he; exact absurd he h1
theorem hQ_len (k z : Int) (cs : List (Int × Int)) (j : Nat) : (hQ k z cs j).length = j := by simp [hQ]
/-- a sequential history of calls -/
theorem seq_hQ {k z : Int} {cs : List (Int × Int)} (hm : mdE k z = 0) (h : okQ k z cs cs.length = true) : SeqH k z (hQ k z cs cs.length) (stQ k z cs) cs.length := by
  have hg : ∀ i (hi : i < (hQ k z cs cs.length).length), (hQ k z cs cs.length)[i] = clQ k z cs i := fun i hi => by simp [hQ]
  have hq : ∀ i (hi : i < cs.length), clQ k z cs i = ⟨(i : Int) % 3, cs[i].1, cs[i].2, (apR k z (stQ k z cs i) cs[i].1 cs[i].2).2.1, 2 * (i : Int), 2 * (i : Int) + 1⟩ := fun i hi => by
    unfold clQ; rw [List.getElem?_eq_getElem hi]
  refine ⟨by rw [hQ_len]; exact Nat.le_refl _, rIni_eq hm, fun i hi => ?_, fun i hi => ?_, fun i hi hp => ?_⟩
  · rw [hg i hi, hq i (by rw [hQ_len] at hi; exact hi)]
  · rw [hg i hi, hq i (by rw [hQ_len] at hi; exact hi)]
  · rw [hg i hi, hq i hp]
    dsimp only
    have he := of_decide_eq_true (List.all_eq_true.1 h i (List.mem_range.2 hp))
    unfold erQ at he
    have hst : stQ k z cs (i + 1) = (apR k z (stQ k z cs i) cs[i].1 cs[i].2).1 := by
      rw [stQ, List.getElem?_eq_getElem hp]
    rw [hst]
    rw [List.getElem?_eq_getElem hp] at he
    dsimp only at he
    have ha : apR k z (stQ k z cs i) cs[i].1 cs[i].2 = apM k z (stQ k z cs i) cs[i].1 cs[i].2 := by
      unfold apR at he ⊢
      rw [if_neg (by simpa using hm)] at he ⊢
      cases hs : stR k z (stQ k z cs i) with
      | false => rw [if_pos hs] at he; simp at he
      | true => rw [if_neg (by simp)]
    rw [ha] at he ⊢
    exact Prod.ext rfl (Prod.ext rfl he)
end Go.Proofs.YtmbkjccckmlacaaDoor

namespace Go.Proofs.YtmbkjccckmlacaaDoor
open Go.RowKit
set_option linter.unusedVariables false
set_option linter.unusedSimpArgs false

def SqQ (R : Bool) (base : Nat) (v : Value) (l : List Cl) (w : World) : Prop := R = true → RowO base v l w
def SqP (w : World) (k z : Int) (cs : List (Int × Int)) (e : Ending) (w' : World) : Prop := ∃ v, e = .returned (.tuple #[v, .bool (okQ k z cs cs.length)]) ∧ SqQ (okQ k z cs cs.length) w.heap.size v (hQ k z cs cs.length) w' ∧ Ext w w'
set_option maxRecDepth 100000 in
set_option maxHeartbeats 4000000 in
theorem sequential_any (k z : Int) (cs : List (Int × Int)) (a : Option Addr) (c : Nat) (w : World) (h : EdAt w a cs) (hl : cs.length ≤ 1000) :
    Calls Tryd.prog 25 #[.agg #[.int .i64 k, .int .i64 z], .slice a cs.length c] w (SqP w k z cs) := by
  have HX := Lib.hid (ext_allocN w (.cells #[.int .i64 k, .int .i64 z] 23))
  have HMD := Lib.hid (mdCells w k z)
  have HH := Lib.hid (fun W (hW : Ext w W) => h.ext hW)
  have KI := Lib.hid (fun W => refInitial_any k z W)
  unfold SqP
  obtain ⟨R, hR⟩ : ∃ R, okQ k z cs cs.length = R := ⟨_, rfl⟩
  rw [hR]
  have HR := Lib.hid hR.symm
  obtain ⟨n, hn⟩ : ∃ n, cs.length = n := ⟨_, rfl⟩
  have HN := Lib.hid hn
  rw [hn] at HR hl ⊢
  clear hn hR h
  obtain ⟨wk, hwk⟩ : ∃ W, W = w.alloc (.cells #[.int .i64 k, .int .i64 z] 23) := ⟨_, rfl⟩
  have hwk' := hwk.symm
  have HWB := Lib.hid (show wk.heap[w.heap.size]? = some (.cells #[.int .i64 k, .int .i64 z] 23 (0, 0)) by rw [hwk]; exact alloc_here _ _)
  rw [hwk'] at HX HMD
  have HMK := Lib.hid (fun W (hW : KeptOp wk W) => show W.cell? ⟨w.heap.size, 0, none⟩ = some (.int .i64 k) ∧ W.cell? ⟨w.heap.size, 1, none⟩ = some (.int .i64 z) from by
    have hb := hW.2 _ _ HWB.out (fun c f e => by cases e)
    exact ⟨cell_of hb rfl, cell_of hb rfl⟩)
  clear hwk
  obtain ⟨m0, m1⟩ := HMD.out wk (Below.refl _ _)
  go_enter Tryd.func25, Tryd.ntmps25
  go_wp2_with fail
  try rw [hwk']
  refine (KI.out _).mono ?_
  rintro e w1 ⟨v1, rfl, hr1, hE1⟩
  have HR1 := Lib.hid (hr1.le HX.out.size)
  have HX1 := Lib.hid (KeptOp.of_ext hE1)
  have HE1 := Lib.hid (Ext.trans HX.out hE1)
  clear hr1 hE1 m0 m1
  go_wp2_with fail
  go_loopw [6, 7, 17] (fun vo vs i wr => ∃ j : Nat, j ≤ n ∧ i = .int .i64 (j : Int) ∧ okQ k z cs j = true ∧ RowO w.heap.size vo (hQ k z cs j) wr ∧ RowI w.heap.size vs (stQ k z cs j) wr ∧ KeptOp wk wr ∧ Ext w wr) (fun _ _ i _ => n - (intOf i).toNat)
  case atStart => exact ⟨0, Nat.zero_le _, rfl, rfl, RowO.nil _ _, HR1.out, HX1.out, HE1.out⟩
  case round =>
    obtain ⟨j, hj, rfl, hok, hro, hri, hkp, hEr⟩ := hrel
    have HOK := Lib.hid hok
    have HRO := Lib.hid hro
    have HRI := Lib.hid hri
    have HKP := Lib.hid hkp
    have HER := Lib.hid hEr
    clear hok hro hri hkp hEr
    by_cases hlt : j < n
    · have hjl : j < cs.length := by rw [HN.out]; exact hlt
      obtain ⟨b, of, hab, x0, x1⟩ := (HH.out wr HER.out) j hjl
      subst hab
      have HSL := Lib.hid (stQ_len HOK.out)
      have HCQ := Lib.hid (show clQ k z cs j = ⟨(j : Int) % 3, cs[j].1, cs[j].2, (apR k z (stQ k z cs j) cs[j].1 cs[j].2).2.1, 2 * (j : Int), 2 * (j : Int) + 1⟩ by unfold clQ; rw [List.getElem?_eq_getElem hjl])
      have HEQ := Lib.hid (show erQ k z cs j = (apR k z (stQ k z cs j) cs[j].1 cs[j].2).2.2 by unfold erQ; rw [List.getElem?_eq_getElem hjl])
      have HSQ := Lib.hid (show stQ k z cs (j + 1) = (apR k z (stQ k z cs j) cs[j].1 cs[j].2).1 by rw [stQ, List.getElem?_eq_getElem hjl])
      obtain ⟨xs, c3, hvs, hi3, hc3, hb3⟩ := HRI.out.look
      subst hvs
      have KA := Lib.hid (fun W (hW : Ext wr W) => Apply_any k z (stQ k z cs j) cs[j].1 cs[j].2 xs c3 W (by have := HSL.out; unfold maxLen; omega) (hi3.ext hW) hc3)
      have hi0 : (0 : Int) ≤ (j : Int) := by omega
      have hi1 : (j : Int) < (n : Int) := by omega
      generalize apR k z (stQ k z cs j) cs[j].1 cs[j].2 = Z at *
      generalize (stQ k z cs j).length = ls at *
      generalize cs[j].1 = e0 at *
      generalize cs[j].2 = e1 at *
      obtain ⟨Z1, rs, er⟩ := Z
      unfold AyP at KA
      dsimp only at *
      obtain ⟨m0, m1⟩ := HMK.out wr HKP.out
      have hws : w.heap.size < wr.heap.size := Nat.lt_of_lt_of_le (lt_of_block HWB.out) HKP.out.1
      have HXE := Lib.hid (ext_allocN wr (.cells #[.int .i64 e0, .int .i64 e1] tEd))
      have HXB := Lib.hid (alloc_here wr (.cells #[.int .i64 e0, .int .i64 e1] tEd))
      go_wp2_with fail
      refine (KA.out _ HXE.out).mono ?_
      rintro e w5 ⟨v5, rfl, hr5, hE5⟩
      have HX5 := Lib.hid (show Ext wr w5 from Ext.trans HXE.out hE5)
      have HR5 := Lib.hid (hr5.le (Nat.le_trans HER.out.size HXE.out.size))
      have hbx := (hE5.below.block _ (lt_of_block HXB.out)).trans HXB.out
      have x0 := cell_of (i := 0) hbx rfl
      have x1 := cell_of (i := 1) hbx rfl
      clear m0 m1 hr5 hE5 hbx
      by_cases her : er = 0
      · subst her
        have g1 : ((0 : Int) != 0) = false := rfl
        have HOK2 := Lib.hid (show okQ k z cs (j + 1) = true by rw [okQ_succ, HOK.out, HEQ.out]; rfl)
        have HH2 := Lib.hid (show hQ k z cs (j + 1) = hQ k z cs j ++ [⟨(j : Int) % 3, e0, e1, rs, 2 * (j : Int), 2 * (j : Int) + 1⟩] by rw [hQ_succ, HCQ.out])
        have HLN := Lib.hid (show (hQ k z cs j).length ≤ 1000000000 by rw [hQ_len]; omega)
        have HBS := Lib.hid (show w.heap.size ≤ w5.heap.size from (Ext.trans HER.out HX5.out).size)
        go_wp2_with (at_builtin; go_loud (refine wp_appOK rfl _ _ (by rfl) w.heap.size _ _ (by rfl) _ (HRO.out.ext HX5.out) ⟨(j : Int) % 3, e0, e1, rs, 2 * (j : Int), 2 * (j : Int) + 1⟩ (w5.heap.size) rfl (by rfl) HLN.out HBS.out ?_); intro v' w' hr hb hk; have HRN := Lib.hid hr; have HBN := Lib.hid (show Ext w w' from Below.trans (Ext.trans HER.out HX5.out) hb); have HKN := Lib.hid (KeptOp.trans (KeptOp.of_ext HX5.out) hk); have HKO := Lib.hid hk; clear hr hb hk)
        exact ⟨⟨j + 1, by omega, by go_num, HOK2.out, by rw [HH2.out]; exact HRN.out, by rw [HSQ.out]; exact HR5.out.keptOp HKO.out, KeptOp.trans HKP.out HKN.out, HBN.out⟩, by simp [intOf]; omega⟩
      · have g1 : (er != 0) = true := by rw [bne_iff_ne]; exact her
        have HRt := Lib.hid (show R = false by rw [HR.out]; exact okQ_no hlt (by rw [HEQ.out]; exact her))
        go_wp2
        go_ret2
        obtain rfl := HRt.out
        exact ⟨_, rfl, (fun h => (by cases h)), Ext.trans HER.out HX5.out⟩
    · have hjl : n = j := by omega
      subst hjl
      have HRt := Lib.hid (show R = true by rw [HR.out]; exact HOK.out)
      go_wp2
      go_ret2
      obtain rfl := HRt.out
      exact ⟨_, rfl, fun _ => HRO.out, HER.out⟩
end Go.Proofs.YtmbkjccckmlacaaDoor

namespace Go.Proofs.YtmbkjccckmlacaaDoor
open Go.RowKit
set_option linter.unusedVariables false
set_option linter.unusedSimpArgs false

theorem u8_bdS {n : Int} (h : (Lit.int .u8 n).wf = true) : 0 ≤ n ∧ n ≤ 255 := by
  simpa [Lit.wf, IntKind.min, IntKind.max, IntKind.signed, IntKind.bits] using h
/-- a history with another result of call p -/
def altC (l : List Cl) (p : Nat) (d : Int) : List Cl := match l[p]? with
  | some x => l.set p { x with res := x.res + d }
  | none => l
theorem altC_len (l : List Cl) (p : Nat) (d : Int) : (altC l p d).length = l.length := by
  unfold altC; split <;> simp
theorem altC_get {l : List Cl} {p : Nat} (hp : p < l.length) (d : Int) (i : Nat) (hi : i < l.length) : (altC l p d)[i]'(by rw [altC_len]; exact hi) = if i = p then { l[p] with res := l[p].res + d } else l[i] := by
  have e : altC l p d = l.set p { l[p] with res := l[p].res + d } := by unfold altC; rw [List.getElem?_eq_getElem hp]
  simp only [e, List.getElem_set]
  by_cases h : i = p
  · subst h; simp
  · rw [if_neg (fun g => h g.symm), if_neg h]
theorem seq_alt {k z : Int} {l : List Cl} {st : Nat → List Int} (h : SeqH k z l st l.length) {p : Nat} (hp : p < l.length) {d : Int} (hd : 0 < d) : (srhR k z (altC l p d)).2.1 = false := by
  have hl := altC_len l p d
  have hlp : p < (altC l p d).length := by rw [hl]; exact hp
  refine seq_none (p := p) (st := st) ⟨by omega, h.st0, fun i hi => ?_, fun i hi => ?_, fun i hi hip => ?_⟩ hlp ?_
  · rw [altC_get hp d i (by omega)]
    split
    · next e => subst e; exact h.beg i hp
    · exact h.beg i (by omega)
  · rw [altC_get hp d i (by omega)]
    split
    · next e => subst e; exact h.en i hp
    · exact h.en i (by omega)
  · rw [altC_get hp d i (by omega), if_neg (by omega)]
    exact h.ap i (by omega) (by omega)
  · rw [altC_get hp d p hp, if_pos rfl]
    dsimp only
    rw [h.ap p hp hp]
    dsimp only
    omega
/-- a store to a call's result -/
theorem alt_store {base : Nat} {v : Value} {l : List Cl} {w : World} (h : RowO base v l w) {p : Nat} (hp : p < l.length) (d : Int) : ∃ b cc, v = .slice (some ⟨b, 0, none⟩) l.length cc ∧ base ≤ b ∧ w.cell? ⟨b, p * 6 + 3, none⟩ = some (.int .i64 l[p].res) ∧ w.frozen? ⟨b, p * 6 + 3, none⟩ = false ∧
    HsAt (w.setCell ⟨b, p * 6 + 3, none⟩ (.int .i64 (l[p].res + d))) (some ⟨b, 0, none⟩) (altC l p d) := by
  obtain ⟨h1, h2⟩ := h
  rcases h2 with ⟨e, h0⟩ | ⟨b, cap, cur, rfl, hb, hg, hn, hm, hs, ht⟩
  · omega
  · have hc : ∀ m (hm : m < l.length) j, j < 6 → cur[m * 6 + j]? = (cOp l[m])[j]? := fun m hm j hj => by
      have e := flatOp_get l m hm j hj
      rw [← ht, List.getElem?_take, if_pos (by omega)] at e
      simpa using e
    refine ⟨b, cap, rfl, hb, cell_of hg (by rw [hc p hp 3 (by omega)]; rfl), free_of hg, fun m hm' => ⟨b, 0, rfl, ?_⟩⟩
    have hml : m < l.length := by rw [altC_len] at hm'; exact hm'
    have hT := ((Turn.refl hg).setCell (i := p * 6 + 3) (.int .i64 (l[p].res + d))).here
    have hz : p * 6 + 3 < cur.size := by rw [hs]; omega
    have hcc : ∀ j v, j < 6 → (cOp (altC l p d)[m])[j]? = some v → (w.setCell ⟨b, p * 6 + 3, none⟩ (.int .i64 (l[p].res + d))).cell? ⟨b, 0 + m * 6 + j, none⟩ = some v := fun j v hj hv => by
      refine cell_of hT ?_
      rw [Nat.zero_add, Array.getElem?_setIfInBounds]
      rw [altC_get hp d m hml] at hv
      by_cases hmp : m = p
      · subst hmp
        rw [if_pos rfl] at hv
        by_cases hj3 : j = 3
        · subst hj3
          rw [if_pos rfl, if_pos hz]
          exact hv
        · rw [if_neg (by omega), hc m hml j hj]
          rw [← hv]
          match j, hj, hj3 with
          | 0, _, _ => rfl
          | 1, _, _ => rfl
          | 2, _, _ => rfl
          | 4, _, _ => rfl
          | 5, _, _ => rfl
      · rw [if_neg hmp] at hv
        rw [if_neg (by omega), hc m hml j hj]
        exact hv
    exact ⟨hcc 0 _ (by omega) rfl, hcc 1 _ (by omega) rfl, hcc 2 _ (by omega) rfl, hcc 3 _ (by omega) rfl, hcc 4 _ (by omega) rfl, hcc 5 _ (by omega) rfl⟩
theorem rg_succ (j : Nat) : (List.range (j + 1)).map Int.ofNat = (List.range j).map Int.ofNat ++ [(j : Int)] := by simp [List.range_succ]
set_option maxRecDepth 100000 in
set_option maxHeartbeats 4000000 in
theorem linearizeSequential_walk (k z : Int) (cs : List (Int × Int)) (a : Option Addr) (c : Nat) (n8 m8 : Int) (w : World) (hO : EdIn w a c cs) (h8 : (Lit.int .u8 n8).wf = true) (h8' : (Lit.int .u8 m8).wf = true) (hT : TabW w) :
    Gives Tryd.prog 8 #[.agg #[.int .i64 k, .int .i64 z], .slice a cs.length c, .int .u8 n8, .int .u8 m8] w (.bool true) := by
  obtain ⟨g8a, g8b⟩ := u8_bdS h8
  obtain ⟨g9a, g9b⟩ := u8_bdS h8'
  obtain ⟨hEd, hlc, hlm, -⟩ := hO
  unfold Gives
  have KA := Lib.hid (fun W (hW : Ext w W) => awake_any W (hT.below hW.below))
  have HTB := Lib.hid (fun W (hW : Ext w W) => hT.below hW.below)
  have HX1 := Lib.hid (ext_allocN w (.cells #[.int .i64 k, .int .i64 z] 23))
  have HMD := Lib.hid (mdCells w k z)
  by_cases h6 : 6 < cs.length
  · have d6 : decide ((6 : Int) < (cs.length : Int)) = true := by simp; omega
    unfold maxLen at hlm
    clear hEd hT h6
    generalize cs.length = n at *
    go_enter Tryd.func8, Tryd.ntmps8
    go_wp2_with fail
    refine (KA.out _ HX1.out).mono ?_
    intro w3 hE3
    have HE3 := Lib.hid (Ext.trans HX1.out hE3)
    clear hE3
    go_wp2
    go_ret
    exact ⟨rfl, HE3.out⟩
  · have d6 : decide ((6 : Int) < (cs.length : Int)) = false := by simp; omega
    have KQ := Lib.hid (fun W (hW : Ext w W) => sequential_any k z cs a c W (hEd.ext hW) (by omega))
    unfold SqP at KQ
    have HL6 := Lib.hid (show cs.length ≤ 6 by omega)
    have HSQ := Lib.hid (fun (hm : mdE k z = 0) (h : okQ k z cs cs.length = true) => seq_hQ hm h)
    have HHL := Lib.hid (hQ_len k z cs cs.length)
    have HM1 := Lib.hid (fun (h : okQ k z cs cs.length = true) (h0 : 0 < cs.length) => show mdE k z = 0 from by
      have he := of_decide_eq_true (List.all_eq_true.1 h 0 (List.mem_range.2 h0))
      unfold erQ at he
      rw [List.getElem?_eq_getElem h0] at he
      dsimp only at he
      unfold apR at he
      by_cases hm : mdE k z = 0
      · exact hm
      · rw [if_pos hm] at he; exact absurd he hm)
    clear hEd h6 hlm
    generalize hQ k z cs cs.length = l at *
    obtain ⟨n, hn⟩ : ∃ n, cs.length = n := ⟨_, rfl⟩
    rw [hn] at KQ HL6 HSQ HHL HM1 d6 hlc ⊢
    clear hn
    cases hok : okQ k z cs n with
    | false =>
      rw [hok] at KQ
      clear hok HSQ HM1 HHL
      go_enter Tryd.func8, Tryd.ntmps8
      obtain ⟨m0, m1⟩ := HMD.out _ (Below.refl _ _)
      go_wp2_with fail
      refine (KQ.out _ HX1.out).mono ?_
      rintro e w2 ⟨v, rfl, -, hE2⟩
      have HE2 := Lib.hid (Ext.trans HX1.out hE2)
      clear hE2 m0 m1
      go_wp2_with fail
      refine (KA.out _ HE2.out).mono ?_
      intro w3 hE3
      have HE3 := Lib.hid (Ext.trans HE2.out hE3)
      clear hE3
      go_wp2
      go_ret
      exact ⟨rfl, HE3.out⟩
    | true =>
      have HSQ2 := Lib.hid (fun hm => HSQ.out hm hok)
      have HM2 := Lib.hid (HM1.out hok)
      rw [hok] at KQ
      clear hok HSQ HM1
      have HCK := Lib.hid (fun W (x : Option Addr) (cc : Nat) (hx : HsAt W x l) => show Gives Tryd.prog 14 #[.slice x n cc] W (.int .i64 (ckH l)) from by
        have := Check_any l x cc W (by rw [HHL.out]; have := HL6.out; unfold maxLen; omega) hx
        rw [HHL.out] at this
        exact this)
      by_cases hck : ckH l = 0
      · rw [hck] at HCK
        have HCK0 := Lib.hid hck
        clear hck
        go_enter Tryd.func8, Tryd.ntmps8
        obtain ⟨m0, m1⟩ := HMD.out _ (Below.refl _ _)
        go_wp2_with fail
        refine (KQ.out _ HX1.out).mono ?_
        rintro e w2 ⟨v, rfl, hro, hE2⟩
        have HRO := Lib.hid (hro rfl)
        obtain ⟨x2, c2, rfl, hx2⟩ := HRO.out.look
        have HHX := Lib.hid hx2
        have HX2 := Lib.hid hE2
        have HE2 := Lib.hid (Ext.trans HX1.out hE2)
        clear hE2 m0 m1 hx2 hro
        rw [HHL.out]
        have KS := Lib.hid (fun W (hW : Ext w2 W) => show Calls Tryd.prog 12 #[.agg #[.int .i64 k, .int .i64 z], .slice x2 n c2] W (ShP W (srhR k z l)) from by
          have := Search_any k z l x2 c2 W (HHX.out.ext hW) (by rw [HHL.out]; have := HL6.out; unfold maxLen; omega) (HTB.out W (Ext.trans HE2.out hW))
          rw [HHL.out] at this
          exact this)
        have KN := Lib.hid (fun W (hW : Ext w2 W) => show Gives Tryd.prog 16 #[.agg #[.int .i64 k, .int .i64 z], .slice x2 n c2, .int .i64 100] W (.tuple #[.int .i64 (cotR k z l 100).1, .int .i64 (cotR k z l 100).2]) from by
          have := Count_any k z l 100 x2 c2 W (HHX.out.ext hW) (by rw [HHL.out]; have := HL6.out; unfold maxLen; omega) (HTB.out W (Ext.trans HE2.out hW))
          rw [HHL.out] at this
          exact this)
        unfold ShP at KS
        have hn6 := HL6.out
        go_wp2_with fail
        refine (HCK.out _ _ _ HHX.out).mono ?_
        intro w3 hE3
        have HX23 := Lib.hid (show Ext w2 w3 from hE3)
        have HE3 := Lib.hid (Ext.trans HE2.out hE3)
        have HX3 := Lib.hid (Ext.trans HX2.out hE3)
        clear hE3
        go_wp2_with fail
        go_loopw [11, 41] (fun vo i wr => ∃ j : Nat, j ≤ n ∧ i = .int .i64 (j : Int) ∧ RowI w3.heap.size vo ((List.range j).map Int.ofNat) wr ∧ Ext w3 wr) (fun _ i _ => n - (intOf i).toNat)
        case atStart => exact ⟨0, Nat.zero_le _, rfl, RowI.nil _ _, Below.refl _ _⟩
        case round =>
          obtain ⟨j, hj, rfl, hri, hEr⟩ := hrel
          have HRI := Lib.hid hri
          have HER := Lib.hid hEr
          clear hri hEr
          by_cases hlt : j < n
          · have hi0 : (0 : Int) ≤ (j : Int) := by omega
            have hi1 : (j : Int) < (n : Int) := by omega
            have HRS := Lib.hid (rg_succ j)
            have HLN := Lib.hid (show ((List.range j).map Int.ofNat).length ≤ 10000000000 by simp; omega)
            have HBS := Lib.hid HER.out.size
            go_wp2_with (at_builtin; go_loud (refine wp_appI rfl _ _ (by rfl) w3.heap.size _ _ (by rfl) _ HRI.out (j : Int) (by rfl) HLN.out HBS.out ?_); intro v' w' hr hb; have HRN := Lib.hid hr; have HBN := Lib.hid (show Ext w3 w' from Below.trans HER.out hb); clear hr hb)
            exact ⟨⟨j + 1, by omega, by go_num, by rw [HRS.out]; exact HRN.out, HBN.out⟩, by simp [intOf]; omega⟩
          · have hjl : n = j := by omega
            subst hjl
            have HX4 := Lib.hid (Ext.trans HX3.out HER.out)
            have HE4 := Lib.hid (Ext.trans HE3.out HER.out)
            have HX24 := Lib.hid (Ext.trans HX23.out HER.out)
            obtain ⟨y4, c4, hv4, hi4, hc4, -⟩ := HRI.out.look
            subst hv4
            have hlr : ((List.range n).map Int.ofNat).length = n := by simp
            rw [hlr] at hc4 ⊢
            have HI4 := Lib.hid hi4
            clear hi4
            obtain ⟨m0, m1⟩ := HMD.out wr HX4.out
            by_cases hmd : mdE k z = 0
            · have hse : srE k z l = 0 := by
                unfold srE
                rw [if_neg (by simpa using hmd), if_neg (by simpa using HCK0.out), if_neg (by rw [HHL.out]; omega)]
              have HS := Lib.hid (show SeqH k z l (stQ k z cs) l.length from by have := HSQ2.out hmd; rw [HHL.out]; exact this)
              obtain ⟨hs1, hs2⟩ := seq_one HS.out hse
              rw [HHL.out] at hs1
              rw [hs1] at KS
              rw [hs2] at KN
              have HLI := Lib.hid (show ((List.range n).map Int.ofNat).length = n by simp)
              clear hse hs1 hs2 hmd
              dsimp only at KS KN
              go_wp2_with fail
              refine (KS.out _ HX24.out).mono ?_
              rintro e w5 ⟨v5, rfl, hr5, hE5⟩
              obtain ⟨y5, c5, hv5, hi5, hc5, -⟩ := hr5.look
              rw [HLI.out] at hv5
              subst hv5
              have HI5 := Lib.hid hi5
              have HI45 := Lib.hid (HI4.out.ext hE5)
              have HX5 := Lib.hid (Ext.trans HX4.out hE5)
              have HE5 := Lib.hid (Ext.trans HE4.out hE5)
              have HX25 := Lib.hid (Ext.trans HX24.out hE5)
              clear hr5 hi5 hE5 m0 m1
              obtain ⟨m0, m1⟩ := HMD.out w5 HX5.out
              go_wp2_with fail
              refine (KN.out _ HX25.out).mono ?_
              intro w6 hE6
              have HI6 := Lib.hid (HI5.out.ext hE6)
              have HI46 := Lib.hid (HI45.out.ext hE6)
              have HX6 := Lib.hid (Ext.trans HX5.out hE6)
              have HE6 := Lib.hid (Ext.trans HE5.out hE6)
              have HX26 := Lib.hid (Ext.trans HX25.out hE6)
              clear hE6 m0 m1
              have KE := Lib.hid (show Gives Tryd.prog 20 #[.slice y5 n c5, .slice y4 n c4] w6 (.bool true) from by
                have := SameI_any ((List.range n).map Int.ofNat) ((List.range n).map Int.ofNat) y5 y4 c5 c4 w6 (by rw [HLI.out]; omega) (by rw [HLI.out]; omega) HI6.out HI46.out
                rw [HLI.out] at this
                simpa using this)
              by_cases hz : 0 < n ∧ 0 < m8
              · obtain ⟨hz1, hz2⟩ := hz
                have g0 : ((n : Int) == 0) = false := by simp; omega
                have g1 : decide ((0 : Int) < (n : Int)) = true := by simp; omega
                have g2 : decide (0 < m8) = true := by simpa using hz2
                go_wp2_with fail
                refine KE.out.mono ?_
                intro w7 hE7
                have HE7 := Lib.hid (Ext.trans HE6.out hE7)
                have HX7 := Lib.hid (Ext.trans HX6.out hE7)
                have HX27 := Lib.hid (Ext.trans HX26.out hE7)
                clear hE7
                obtain ⟨p, hp⟩ : ∃ p : Nat, n8.toNat % n = p := ⟨_, rfl⟩
                have hpn : p < n := by rw [← hp]; exact Nat.mod_lt _ hz1
                have hpp : n8 % (n : Int) = (p : Int) := by rw [← hp, Int.natCast_emod, Int.toNat_of_nonneg g8a]
                have hpl : p < l.length := by rw [HHL.out]; exact hpn
                obtain ⟨b, cc, hsl, hb, hc7, hf7, hA7⟩ := alt_store (HRO.out.ext HX27.out) hpl m8
                cases hsl
                have HA7 := Lib.hid hA7
                have HNO := Lib.hid (seq_alt HS.out hpl hz2)
                have hrs : -1099511627776 ≤ l[p].res ∧ l[p].res ≤ 1099511627776 := by
                  have := (clE_parts ((ckH_parts HCK0.out).2.1 p hpl)).1.2.2.2
                  unfold inM at this
                  exact of_decide_eq_true this
                obtain ⟨hrs1, hrs2⟩ := hrs
                have HXS := Lib.hid (fun v => (HX7.out.setCell (p := ⟨b, p * 6 + 3, none⟩) hb v : Ext _ _))
                have HES := Lib.hid (fun v => (HE7.out.setCell (p := ⟨b, p * 6 + 3, none⟩) (Nat.le_trans HX1.out.size hb) v : Ext _ _))
                have hp0 : (0 : Int) ≤ (p : Int) := by omega
                have hp1 : (p : Int) < (n : Int) := by omega
                clear hA7 hp
                generalize l[p].res = r at *
                obtain ⟨m0, m1⟩ := HMD.out _ (HXS.out (.int .i64 (r + m8)))
                go_wp2_with fail
                generalize hW8 : w7.setCell ⟨b, p * 6 + 3, none⟩ (.int .i64 (r + m8)) = w8 at *
                have HE8 := Lib.hid (show Ext w w8 from by rw [← hW8]; exact HES.out _)
                have HA8 := Lib.hid (show HsAt w8 (some ⟨b, 0, none⟩) (altC l p m8) from HA7.out)
                have HAL := Lib.hid (show (altC l p m8).length = n by rw [altC_len, HHL.out])
                have KS8 := Lib.hid (show Calls Tryd.prog 12 #[.agg #[.int .i64 k, .int .i64 z], .slice (some ⟨b, 0, none⟩) n c2] w8 (ShP w8 (srhR k z (altC l p m8))) from by
                  have := Search_any k z (altC l p m8) (some ⟨b, 0, none⟩) c2 w8 HA8.out (by rw [HAL.out]; unfold maxLen; omega) (HTB.out w8 HE8.out)
                  rw [HAL.out] at this
                  exact this)
                unfold ShP at KS8
                generalize srhR k z (altC l p m8) = S8 at *
                obtain ⟨s8, is8, e8⟩ := S8
                dsimp only at KS8 HNO
                obtain rfl := HNO.out
                clear hW8 m0 m1
                refine KS8.out.mono ?_
                rintro e w9 ⟨v9, rfl, -, hE9⟩
                have HE9 := Lib.hid (Ext.trans HE8.out hE9)
                clear hE9
                by_cases he8 : e8 = 0
                · subst he8
                  go_wp2_with fail
                  refine (KA.out _ HE9.out).mono ?_
                  intro w10 hE10
                  have HE10 := Lib.hid (Ext.trans HE9.out hE10)
                  clear hE10
                  go_wp2
                  go_ret
                  exact ⟨rfl, HE10.out⟩
                · have g8 : (e8 == 0) = false := by simpa using he8
                  clear he8
                  go_wp2_with fail
                  refine (KA.out _ HE9.out).mono ?_
                  intro w10 hE10
                  have HE10 := Lib.hid (Ext.trans HE9.out hE10)
                  clear hE10
                  go_wp2
                  go_ret
                  exact ⟨rfl, HE10.out⟩
              · have hcase : (n = 0) ∨ (0 < n ∧ m8 = 0) := by omega
                rcases hcase with hn0 | ⟨hn0, hm0⟩
                · subst hn0
                  go_wp2_with fail
                  refine KE.out.mono ?_
                  intro w7 hE7
                  have HE7 := Lib.hid (Ext.trans HE6.out hE7)
                  clear hE7
                  go_wp2_with fail
                  refine (KA.out _ HE7.out).mono ?_
                  intro w8 hE8
                  have HE8 := Lib.hid (Ext.trans HE7.out hE8)
                  clear hE8
                  go_wp2
                  go_ret
                  exact ⟨rfl, HE8.out⟩
                · subst hm0
                  have g0 : ((n : Int) == 0) = false := by simp; omega
                  have g1 : decide ((0 : Int) < (n : Int)) = true := by simp; omega
                  go_wp2_with fail
                  refine KE.out.mono ?_
                  intro w7 hE7
                  have HE7 := Lib.hid (Ext.trans HE6.out hE7)
                  clear hE7
                  go_wp2_with fail
                  refine (KA.out _ HE7.out).mono ?_
                  intro w8 hE8
                  have HE8 := Lib.hid (Ext.trans HE7.out hE8)
                  clear hE8
                  go_wp2
                  go_ret
                  exact ⟨rfl, HE8.out⟩
            · have hn0 : n = 0 := by
                rcases Nat.eq_zero_or_pos n with h | h
                · exact h
                · exact absurd (HM2.out h) hmd
              subst hn0
              have hse : srE k z l = mdE k z := by unfold srE; rw [if_pos hmd]
              have hs1 : srhR k z l = ([], false, mdE k z) := by unfold srhR; rw [if_pos (by rw [hse]; exact hmd), hse]
              have hs2 : cotR k z l 100 = (0, mdE k z) := by unfold cotR; rw [if_pos (by rw [hse]; exact hmd), hse]
              have g1 : (mdE k z != 0) = true := by rw [bne_iff_ne]; exact hmd
              rw [hs1] at KS
              rw [hs2] at KN
              clear hse hs1 hs2 hmd HM2 HSQ2
              dsimp only at KS KN
              generalize mdE k z = E at *
              go_wp2_with fail
              refine (KS.out _ HX24.out).mono ?_
              rintro e w5 ⟨v5, rfl, hr5, hE5⟩
              have HX5 := Lib.hid (Ext.trans HX4.out hE5)
              have HE5 := Lib.hid (Ext.trans HE4.out hE5)
              have HX25 := Lib.hid (Ext.trans HX24.out hE5)
              clear hr5 hE5 m0 m1
              obtain ⟨m0, m1⟩ := HMD.out w5 HX5.out
              go_wp2_with fail
              refine (KN.out _ HX25.out).mono ?_
              intro w6 hE6
              have HE6 := Lib.hid (Ext.trans HE5.out hE6)
              clear hE6 m0 m1
              go_wp2_with fail
              refine (KA.out _ HE6.out).mono ?_
              intro w7 hE7
              have HE7 := Lib.hid (Ext.trans HE6.out hE7)
              clear hE7
              go_wp2
              go_ret
              exact ⟨rfl, HE7.out⟩
      · have g1 : (ckH l != 0) = true := by rw [bne_iff_ne]; exact hck
        generalize ckH l = E at *
        clear hck HSQ2 HM2
        go_enter Tryd.func8, Tryd.ntmps8
        obtain ⟨m0, m1⟩ := HMD.out _ (Below.refl _ _)
        go_wp2_with fail
        refine (KQ.out _ HX1.out).mono ?_
        rintro e w2 ⟨v, rfl, hro, hE2⟩
        obtain ⟨x2, c2, rfl, hx2⟩ := (hro rfl).look
        have HHX := Lib.hid hx2
        have HE2 := Lib.hid (Ext.trans HX1.out hE2)
        clear hE2 m0 m1 hx2 hro
        rw [HHL.out]
        go_wp2_with fail
        refine (HCK.out _ _ _ HHX.out).mono ?_
        intro w3 hE3
        have HE3 := Lib.hid (Ext.trans HE2.out hE3)
        clear hE3
        go_wp2_with fail
        refine (KA.out _ HE3.out).mono ?_
        intro w4 hE4
        have HE4 := Lib.hid (Ext.trans HE3.out hE4)
        clear hE4
        go_wp2
        go_ret
        exact ⟨rfl, HE4.out⟩
end Go.Proofs.YtmbkjccckmlacaaDoor

namespace Go.Proofs.YtmbkjccckmlacaaDoor.linearizeSequential
open Go.ChangeShapes Go.WideShapes Go.ChangeAt Go.RowKit
open Go.ChangeMaps (open_string shut_string)
set_option linter.unusedVariables false

theorem own : ownKnob Tryd.prog.godebug = none := by kernel_rfl
theorem laidOut : laidOutB Tryd.prog = true := by kernel_rfl
/-- the cells of a datum of plain values -/
def flat : Nat → DataW Unit → List Value
  | _, .lit l => [l.value]
  | n + 1, .agg ps => ps.flatMap (flat n)
  | _, _ => []
/-- a world for the witness: the settled one, the listed tables holding what the text lays -/
def lay (d : DataW Unit) : Obj → Obj
  | .cells _ t frozen => .cells (flat 4 d).toArray t frozen
  | o => o
noncomputable def laidWorld (os : Os) : World :=
  { World.holding Tryd.prog os ⟨#[], #[], []⟩ with heap := ((((World.holding Tryd.prog os ⟨#[], #[], []⟩).heap.modify 1 (lay Rows.laid_math_bits_deBruijn32tab)).modify 2 (lay Rows.laid_math_bits_deBruijn64tab)).modify 0 (lay Rows.laid_internal_strconv_uint64pow10)) }
theorem laid_met (os : Os) : laidMet Tryd.prog Rows.linearizeSequentialRow.laid ((laidWorld os).forCall (fun _ _ => 0) ⟨#[], #[.agg #[.int .i64 0, .int .i64 0], .slice none 0 0, .int .u8 0, .int .u8 0], []⟩).memory :=
  laidMet_of_run' 8 (by kernel_rfl) (by kernel_rfl)
theorem reads (os : Os) {H : Type} (enc : TypeId × Value → H) : ∃ places, DataW.whole enc Tryd.prog ((laidWorld os).forCall (fun _ _ => 0) ⟨#[], #[.agg #[.int .i64 0, .int .i64 0], .slice none 0 0, .int .u8 0, .int .u8 0], []⟩).memory Tryd.f8.params.toList Rows.linearizeSequentialSpec.vars false (#[.agg #[.int .i64 0, .int .i64 0], .slice none 0 0, .int .u8 0, .int .u8 0] : Array Value).toList 8 = some ([.agg [.lit (.int .i64 0), .lit (.int .i64 0)], .nil, .lit (.int .u8 0), .lit (.int .u8 0)], [], places) :=
  ⟨[], by kernel_rfl⟩
theorem tab (W : World) (h : laidMetH Tryd.prog Rows.linearizeSequentialRow.laid W) : TabW W := by
  have h1 : laidMet Tryd.prog Rows.linearizeSequentialRow.laid W := h
  exact Lib.tabIs_of_head (g := 0) (t := 129) (e := 116) (n := 20) (by kernel_rfl) (by kernel_rfl) Tryd.underlying129 Tryd.underlying116 (by kernel_rfl) (by kernel_rfl) h1.tail.tail
set_option maxRecDepth 100000 in
theorem contract (H : Type) (enc : TypeId × Value → H) (W : World) (base : Nat) (args : Array Value) (ds gs : List (DataW H)) (before : List MemPlace)
    (hval0 : ∀ (j : Nat) t v, Tryd.f8.params[j]? = some t → args[j]? = some v → Value.okWide Tryd.prog W .any base t v)
    (hW : DataW.Whole enc Tryd.prog Tryd.f8.params.toList Rows.linearizeSequentialSpec.vars false W args.toList ds gs before) (hz : (DataW.weightsEach Tryd.prog (Tryd.f8.params.toList ++ (OpenSpec.ofChange Rows.linearizeSequentialSpec).bare.plain.varTypes Tryd.prog) (ds ++ gs)).all (· ≤ reachBytes) = true) (hL : laidMetH Tryd.prog Rows.linearizeSequentialRow.laid W) :
    Calls Tryd.prog 8 args W fun e W' => ∃ v, e = .returned v ∧ Rows.linearizeSequentialSpec.post enc Tryd.prog Tryd.f8 false true false false W args v W' := by
  have hval := hval0
  have hW' := hW
  obtain ⟨p, q, hA0, hV, rfl, hfz, hnd⟩ := hW
  have hA : DataW.TrodAll enc Tryd.prog W 0 (fun _ => true) true Tryd.f8.params.toList args.toList ds p := hA0
  rw [Tryd.params8] at hA hval
  obtain ⟨v0, vs0, d0, ds0, p0, q0, hargs, rfl, rfl, h0, r0⟩ := trodAll_cons hA
  obtain ⟨v1, vs1, d1, ds1, p1, q1, rfl, rfl, rfl, h1, r1⟩ := trodAll_cons r0
  obtain ⟨v2, vs2, d2, ds2, p2, q2, rfl, rfl, rfl, h2, r2⟩ := trodAll_cons r1
  obtain ⟨v3, vs3, d3, ds3, p3, q3, rfl, rfl, rfl, h3, r3⟩ := trodAll_cons r2
  obtain ⟨rfl, rfl, rfl⟩ := trodAll_nil r3
  obtain rfl : args = #[v0, v1, v2, v3] := by cases args; simp_all
  obtain ⟨rfl, rfl⟩ := trodVars_none hV
  have k0 := h0
  have lt0 : ∀ x ∈ p0, x.block < W.heap.size := by obtain ⟨m, hm⟩ := k0; exact DataW.trod_lt m _ _ _ hm
  obtain ⟨mk0, mz0, rfl, wk0, wz0⟩ := open_md (hval 0 23 v0 rfl rfl) h0
  obtain ⟨a1, len1, cap1, rfl⟩ := okWide_slice Tryd.underlying44 (hval 1 44 v1 rfl rfl)
  have k1 := h1
  have lt1 : ∀ x ∈ p1, x.block < W.heap.size := by obtain ⟨m, hm⟩ := k1; exact DataW.trod_lt m _ _ _ hm
  obtain ⟨tk1, rfl, w1⟩ := open_eds h1
  obtain ⟨a2, rfl, rfl, rfl, w2⟩ := open_int Tryd.underlying5 (hval 2 5 v2 rfl rfl) h2
  obtain ⟨a3, rfl, rfl, rfl, w3⟩ := open_int Tryd.underlying5 (hval 3 5 v3 rfl rfl) h3
  clear hA0 hval0 hz
  refine (linearizeSequential_walk mk0 mz0 tk1 a1 cap1 a2 a3 W w1 w2 w3 (tab W hL)).mono fun W' bel => ?_
  exact ⟨_, rfl, _, _, _, [], _, [], hW', trodAll_mk1 (shut_bool Tryd.underlying4 _), (trodAll_cons_mk (Below.trod laidOut (by kernel_rfl) (of_decide_eq_true (by kernel_rfl)) k0 bel lt0) (trodAll_cons_mk (Below.trod laidOut (by kernel_rfl) (of_decide_eq_true (by kernel_rfl)) k1 bel lt1) (trodAll_cons_mk (shut_int Tryd.underlying5 w2) (trodAll_cons_mk (shut_int Tryd.underlying5 w3) trodAll_mk0)))), rfl, bel.frame _, fun h => by cases h⟩

set_option maxRecDepth 100000 in
theorem lifted (os : Os) (started : os.Started) (H : Type) (enc : TypeId × Value → H) (F : Stop.Interp) :
    ReturnsInHanded {} Tryd.checked os 8 .any ((OpenSpec.ofChange Rows.linearizeSequentialSpec).preRow enc Tryd.prog Tryd.f8 Rows.linearizeSequentialRow.domain false Rows.linearizeSequentialRow.laid) (((OpenSpec.ofChange Rows.linearizeSequentialSpec).at F).post enc Tryd.prog Tryd.f8 false true false false) := by
  obtain ⟨places, hx⟩ := reads os enc
  refine returnsInHanded_of_row (C := Tryd.checked) (s := OpenSpec.ofChange Rows.linearizeSequentialSpec) own started (by kernel_rfl) Tryd.func8
    (witness_row_at (enc := enc) (C := Tryd.checked) false (laidWorld os) #[.agg #[.int .i64 0, .int .i64 0], .slice none 0 0, .int .u8 0, .int .u8 0] rfl (by kernel_rfl) (by kernel_rfl) (by kernel_rfl)
      (OpenSpec.preRow_of_cond 8 hx (by kernel_rfl) (fun k hk => by cases hk) (by kernel_rfl) (laid_met os))) ?_
  intro W base args ds gs before hval hW _ _ hz hL hsh _
  exact contract H enc W base args ds gs before hval hW hz hL

theorem said : Rows.LinearizeSequentialSaid :=
  OpenClaim.holds_of_cond 8 Tryd.f8 rfl rfl rfl rfl rfl rfl rfl ⟨rfl, rfl, rfl, rfl, rfl⟩ rfl rfl rfl rfl rfl (by kernel_rfl) Tryd.func8 (by kernel_rfl)
    (of_decide_eq_true (by kernel_rfl)) (by unfold Func.isWrapper; first | (rw [if_pos (by decide +kernel)]; kernel_rfl) | (rw [if_neg (by decide +kernel)]; exact ⟨rfl, rfl⟩))
    (fun os started H enc _ F => by rw [OpenClaim.pre_eq_preRow]; exact lifted os started H enc F)

theorem plain (f : FuncId) (fn : Func) (hf : Tryd.pinned.checked.prog.funcNamed "nursery/nurserylaw44.LinearizeSequential" = some f) (hfn : Tryd.pinned.checked.prog.funcs[f]? = some fn) :
    false = Tryd.pinned.checked.prog.looks [] ∧ ∀ (j : Nat) t, fn.params[j]? = some t → Tryd.pinned.checked.prog.wantsStandIn t = false := by
  obtain rfl : f = 8 := Option.some.inj ((show Tryd.prog.funcNamed "nursery/nurserylaw44.LinearizeSequential" = some 8 by kernel_rfl).symm.trans hf) |>.symm
  obtain rfl : fn = Tryd.f8 := (Option.some.inj (Tryd.func8.symm.trans hfn)).symm
  refine ⟨by kernel_rfl, fun j t ht => ?_⟩
  rw [Tryd.params8] at ht
  rcases j with _ | _ | _ | _ | j
  · obtain rfl : t = 23 := by simpa using ht.symm
    exact (show Tryd.prog.wantsStandIn 23 = false by kernel_rfl)
  · obtain rfl : t = 44 := by simpa using ht.symm
    exact (show Tryd.prog.wantsStandIn 44 = false by kernel_rfl)
  · obtain rfl : t = 5 := by simpa using ht.symm
    exact (show Tryd.prog.wantsStandIn 5 = false by kernel_rfl)
  · obtain rfl : t = 5 := by simpa using ht.symm
    exact (show Tryd.prog.wantsStandIn 5 = false by kernel_rfl)
  · simp at ht

/-- the statement -/
theorem proved : Rows.LinearizeSequentialCardSaid :=
  Claim7.holds_tied_plain_at .later [] _ _ _ _ said (fun _ h => by cases h) (by kernel_rfl) (fun _ h => by cases h) linearizeSequential_row_tie rfl ⟨rfl, rfl⟩ (by kernel_rfl) rfl plain (by kernel_rfl)
#print axioms proved
end Go.Proofs.YtmbkjccckmlacaaDoor.linearizeSequential

