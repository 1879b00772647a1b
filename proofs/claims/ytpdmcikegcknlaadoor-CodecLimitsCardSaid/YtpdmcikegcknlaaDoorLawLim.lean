/- CodecLimits: the walk. -/
import Derived.Test.YtpdmcikegcknlaaDoorLawTrip
import Derived.Deep.RegionHeld3
import Derived.OwnWalk
namespace Go.Proofs.YtpdmcikegcknlaaDoor
open Go.RowKit
set_option linter.unusedVariables false
set_option linter.unusedSimpArgs false

/-- a text of the greatest length -/
def bigT (c : UInt8) : List UInt8 := List.replicate 100000 c
theorem bigT_len (c : UInt8) : (bigT c).length = 100000 := by unfold bigT; rw [List.length_replicate]
theorem repeatL_one (c : UInt8) : ∀ n : Nat, Go.Lib.repeatL [c] n = List.replicate n c
  | 0 => rfl
  | n + 1 => by
    rw [List.replicate_succ, ← repeatL_one c n]; rfl
theorem repeat_any (c : UInt8) (w : World) : Gives Tryd.prog 32 #[sV [c], .int .i64 100000] w (sV (bigT c)) := by
  have := Tryd.strings_Repeat (sB [c]) 100000 w (by omega) (by rw [sB_size]; simp)
  rw [sB_data, repeatL_one] at this
  exact this

theorem conv_lit1 (c : UInt8) (W : World) : (convert 48 9 (.slice (some ⟨W.heap.size, 0, none⟩) 1 1)).run Tryd.prog (W.alloc (.cells #[.int .u8 (c.toNat : Int)] 5)) = .ok (sV [c]) (W.alloc (.cells #[.int .u8 (c.toNat : Int)] 5)) := by
  refine run_convert_bytes_back _ 48 9 5 ⟨W.heap.size, 0, none⟩ 1 [c] Tryd.underlying48 Tryd.underlying5 Tryd.underlying9 (fun j hj => ?_)
  have h0 : j = 0 := by simpa using hj
  subst h0
  exact cell_of (alloc_here _ _) rfl

theorem encs_rep (n : Int) : ∀ N : Nat, (encs (List.replicate N n)).length = N * (enc n).length
  | 0 => by simp [encs]
  | N + 1 => by rw [List.replicate_succ, encs_cons, List.length_append, encs_rep n N, Nat.add_mul]; omega
theorem all_rep {n : Int} (h : inR n = true) (N : Nat) : (List.replicate N n).all inR = true := by
  rw [List.all_eq_true]; intro x hx; rw [(List.mem_replicate.1 hx).2]; exact h
theorem not_rep {n : Int} (h : inR n = false) {N : Nat} (hN : 0 < N) : (List.replicate N n).all inR = false := by
  rw [List.all_eq_false]
  exact ⟨n, List.mem_replicate.2 ⟨by omega, rfl⟩, by simp [h]⟩

/-- the list that the law makes, in memory -/
theorem rep_ints {wr : World} {g N : Nat} {c : Array Value} {n : Int} {w : World} (hT : Turn g (.cells c 3 (0, 0)) w wr) (hc : ∀ i, i < N → c[i]? = some (.int .i64 n)) : IntsAt wr (some ⟨g, 0, none⟩) (List.replicate N n) := fun i hi => by
  have hi' : i < N := by simpa using hi
  refine ⟨_, _, rfl, ?_⟩
  rw [Nat.zero_add, List.getElem_replicate]
  exact cell_of hT.here (hc i hi')

set_option maxRecDepth 100000 in
set_option maxHeartbeats 32000000 in
theorem limits_main (c : UInt8) (n : Int) (e N : Nat) (w : World) (hm : MaxL w) (hwf : (Lit.int .i64 n).wf = true) (he : e ≤ 255) (hN : N = 20000 + e % 2) :
    Gives Tryd.prog 10 #[.int .u8 (c.toNat : Int), .int .i64 n, .int .u8 (e : Int)] w (.bool true) := by
  have hbl := bigT_len c
  have R := Lib.hid (fun W => repeat_any c W)
  have T1 := Lib.hid (fun W (hW : MaxL W) => Text_any (bigT c) W (by omega) hW)
  rw [show txS (bigT c) = encT (bigT c) by unfold txS; rw [if_neg (by omega)], show txE (bigT c) = 0 by unfold txE; rw [if_neg (by omega)]] at T1
  have T2 := Lib.hid (fun W => ReadText_any (encT (bigT c)) W (by have := (esc_len (bigT c)).2; simp [encT]; omega))
  unfold rdXV at T2
  have hrd := rdX_enc (bigT c) [] (by omega)
  rw [List.append_nil] at hrd
  rw [hrd] at T2
  have T3 := Lib.hid (fun W (hW : MaxL W) => Text_any (bigT c ++ [c]) W (by simp; omega) hW)
  rw [show txS (bigT c ++ [c]) = [] by unfold txS; rw [if_pos (by simp; omega)], show txE (bigT c ++ [c]) = 4 by unfold txE; rw [if_pos (by simp; omega)]] at T3
  have hconv := fun W => conv_lit1 c W
  have L1 : (bigT c).length ≤ 100000 := by omega
  have HM := Lib.hid hm
  clear hrd hbl hm
  generalize encT (bigT c) = x1 at *
  generalize bigT c = y1 at *
  have HN := Lib.hid hN
  have hN1 : 20000 ≤ N := by omega
  have hN2 : N ≤ 20001 := by omega
  clear hN
  unfold Gives
  go_enter Tryd.func10, Tryd.ntmps10
  go_wp2_with fail
  refine (R.out _).mono ?_
  intro w1 hB
  have H1 := Lib.hid (show Ext w w1 from Ext.trans (show Ext w (w.alloc (.cells #[.int .u8 (c.toNat : Int)] 5)) from (Below.refl _ w).alloc (Nat.le_refl _) _) hB)
  clear hB R
  go_wp2_with fail
  refine (T1.out _ (HM.out.ext H1.out)).mono ?_
  intro w2 hB
  have H2 := Lib.hid (Ext.trans H1.out hB)
  clear hB T1 H1
  go_wp2_with fail
  refine (T2.out _).mono ?_
  intro w3 hB
  have H3 := Lib.hid (Ext.trans H2.out hB)
  clear hB T2 H2
  go_wp2_with fail
  refine (T3.out _ ((HM.out.ext H3.out).ext ((Below.refl _ w3).alloc (Nat.le_refl _) _))).mono ?_
  intro w4 hB
  have H4 := Lib.hid (show Ext w w4 from Ext.trans H3.out (Ext.trans (show Ext w3 (w3.alloc (.cells #[.int .u8 (c.toNat : Int)] 5)) from (Below.refl _ w3).alloc (Nat.le_refl _) _) hB))
  clear hB T3 H3 hconv
  have hmk := run_make_row' (P := Tryd.prog) 22 3 (.int .i64 0) 8 Tryd.underlying22 infoI' rfl .i64 .i64 N (by omega) (by omega)
  obtain ⟨c0, hc0⟩ : ∃ c0, madeCells #[.int .i64 0] N = c0 := ⟨_, rfl⟩
  have HS := Lib.hid (show c0.size = N by rw [← hc0, size_madeCells])
  rw [hc0] at hmk
  clear hc0
  rw [show ((N : Nat) : Int) = 20000 + (e : Int) % 2 by have := HN.out; omega] at hmk
  go_wp2
  clear hmk
  have HTw := Lib.hid (show Turn w4.heap.size (.cells c0 3 (0, 0)) w4 (w4.alloc (.cells c0 3)) from ⟨rfl, rfl, rfl, by simp, alloc_here _ _, fun j hj _ => Below.heap_alloc _ _ _ hj⟩)
  go_loopw [75] (fun i wr => ∃ (j : Nat) (cs : Array Value), j ≤ N ∧ i = .int .i64 j ∧ cs.size = N ∧ (∀ i, i < j → cs[i]? = some (.int .i64 n)) ∧ Turn w4.heap.size (.cells cs 3 (0, 0)) w4 wr) (fun i _ => N - (intOf i).toNat)
  case atStart => exact ⟨0, c0, Nat.zero_le _, rfl, HS.out, fun _ h => absurd h (Nat.not_lt_zero _), HTw.out⟩
  case round =>
    obtain ⟨j, cs, hj, rfl, hcs, hA, hT⟩ := hrel
    have HA := Lib.hid hA
    have HT := Lib.hid hT
    have HC := Lib.hid hcs
    clear hA hT hcs
    by_cases hlt : j < N
    · have hj' : j < cs.size := by rw [HC.out]; exact hlt
      have hcell : wr.cell? ⟨w4.heap.size, j, none⟩ = some cs[j] := cell_of HT.out.here (Array.getElem?_eq_getElem hj')
      have hfz : wr.frozen? ⟨w4.heap.size, j, none⟩ = false := free_of HT.out.here
      have HT2 := Lib.hid (HT.out.setCell (i := j) (.int .i64 n))
      have HX := Lib.hid (show ∀ i, i < j + 1 → (cs.setIfInBounds j (.int .i64 n))[i]? = some (.int .i64 n) from fun i hi => by
        by_cases e : j = i
        · subst e; simp [hj']
        · rw [Array.getElem?_setIfInBounds_ne e]; exact HA.out i (by omega))
      generalize cs[j] = old at *
      go_wp2
      go_roundw
      case rel => exact ⟨j + 1, _, by omega, by go_num, by simp [HC.out], HX.out, HT2.out⟩
      case measure => simp [intOf]; omega
    · have hI : ∀ W, Below wr.heap.size wr W → IntsAt W (some ⟨w4.heap.size, 0, none⟩) (List.replicate N n) := fun W hW => (rep_ints HT.out (fun i hi => HA.out i (by omega))).below hW
      have H5 := Lib.hid (show Ext w wr from Below.trans H4.out (Below.mono (HT.out.below (Nat.le_refl _) (Nat.le_refl _)) H4.out.size))
      have hbd := i64_bd hwf
      have HI := Lib.hid hI
      have C1 := Lib.hid (fun W (hW : Below wr.heap.size wr W) => List_any (List.replicate N n) (some ⟨w4.heap.size, 0, none⟩) N W (by rw [List.length_replicate]; unfold maxLen; omega) (hI W hW) (fun x hx => by rw [(List.mem_replicate.1 hx).2]; exact hbd))
      rw [List.length_replicate] at C1
      have Q := Lib.hid (fun W => Int_any n W hwf)
      clear hI hwf hbd
      by_cases hodd : N = 20001
      · have q : decide ((20000 : Int) < (N : Int)) = true := by simp; omega
        rw [show lsS (List.replicate N n) = [] by unfold lsS; rw [if_pos (by rw [List.length_replicate]; omega)], show lsE (List.replicate N n) = 4 by unfold lsE; rw [if_pos (by rw [List.length_replicate]; omega)]] at C1
        clear hodd
        generalize itS n = v1 at *
        generalize itE n = v2 at *
        go_wp2_with fail
        refine (Q.out _).mono ?_
        intro w6 hB
        have B6 := Lib.hid hB
        have H6 := Lib.hid (Ext.trans H5.out hB)
        clear hB Q H5
        go_wp2_with fail
        refine (C1.out _ B6.out).mono ?_
        intro w7 hB
        have H7 := Lib.hid (Ext.trans H6.out hB)
        clear hB C1 H6 B6
        go_wp2_with fail
        refine (awake1_any _ (HM.out.ext H7.out)).mono ?_
        intro wz hB
        have Hz := Lib.hid (Ext.trans H7.out hB)
        clear hB
        go_wp2
        go_ret
        exact ⟨rfl, Hz.out⟩
      · have hN0 : N = 20000 := by omega
        have q : decide ((20000 : Int) < (N : Int)) = false := by simp; omega
        cases hr : inR n with
        | false =>
          have hnr := not_rep hr (N := N) (by omega)
          rw [show lsS (List.replicate N n) = [] by unfold lsS; rw [if_neg (by rw [List.length_replicate]; omega), if_neg (by rw [hnr]; simp)], show lsE (List.replicate N n) = 2 by unfold lsE; rw [if_neg (by rw [List.length_replicate]; omega), if_neg (by rw [hnr]; simp)]] at C1
          rw [show itS n = [] by unfold itS; rw [if_neg (by rw [hr]; simp)], show itE n = 2 by unfold itE; rw [if_neg (by rw [hr]; simp)]] at Q
          clear hodd hN0 hr hnr
          go_wp2_with fail
          refine (Q.out _).mono ?_
          intro w6 hB
          have B6 := Lib.hid hB
          have H6 := Lib.hid (Ext.trans H5.out hB)
          clear hB Q H5
          go_wp2_with fail
          refine (C1.out _ B6.out).mono ?_
          intro w7 hB
          have H7 := Lib.hid (Ext.trans H6.out hB)
          clear hB C1 H6 B6
          go_wp2_with fail
          refine (awake1_any _ (HM.out.ext H7.out)).mono ?_
          intro wz hB
          have Hz := Lib.hid (Ext.trans H7.out hB)
          clear hB
          go_wp2
          go_ret
          exact ⟨rfl, Hz.out⟩
        | true =>
          have har := all_rep hr N
          have hrd := rdL_enc (List.replicate N n) [] har (by rw [List.length_replicate]; omega)
          rw [List.append_nil] at hrd
          have hln : (encL (List.replicate N n)).length = N * (enc n).length + 1 := by unfold encL; rw [List.length_append, encs_rep]; rfl
          have h9 := enc_le9 n ((inR_iff n).1 hr).1 ((inR_iff n).1 hr).2
          have hmul := Nat.mul_le_mul_left N h9
          have RL := Lib.hid (fun W => ReadList_any (encL (List.replicate N n)) W (by omega) (by rw [hrd]; simp))
          rw [hrd] at RL
          unfold GivesR at RL
          simp only [List.length_replicate] at RL
          rw [show lsS (List.replicate N n) = encL (List.replicate N n) by unfold lsS; rw [if_neg (by rw [List.length_replicate]; omega), if_pos har], show lsE (List.replicate N n) = 0 by unfold lsE; rw [if_neg (by rw [List.length_replicate]; omega), if_pos har]] at C1
          rw [show itS n = enc n by unfold itS; rw [if_pos hr], show itE n = 0 by unfold itE; rw [if_pos hr]] at Q
          have hmN : N * (enc n).length = 20000 * (enc n).length := by rw [hN0]
          have hln2 := Lib.hid (show (((encL (List.replicate N n)).length : Nat) : Int) = 20000 * (((enc n).length : Nat) : Int) + 1 by omega)
          have hL9 : (encL (List.replicate N n)).length ≤ 1000000 := by omega
          have hE9 : (enc n).length ≤ 9 := h9
          have S := Lib.hid (fun W x c2 (h1 : IntsAt W (some ⟨w4.heap.size, 0, none⟩) (List.replicate N n)) (h2 : IntsAt W x (List.replicate N n)) => same01_any (List.replicate N n) (List.replicate N n) (some ⟨w4.heap.size, 0, none⟩) x N c2 W (by rw [List.length_replicate]; unfold maxLen; omega) (by rw [List.length_replicate]; unfold maxLen; omega) h1 h2)
          simp only [List.length_replicate, beq_self_eq_true] at S
          clear hodd hN0 hr har hrd hln h9 hmul hmN
          generalize encL (List.replicate N n) = v1 at *
          generalize enc n = v2 at *
          go_wp2_with fail
          refine (Q.out _).mono ?_
          intro w6 hB
          have B6 := Lib.hid hB
          have H6 := Lib.hid (Ext.trans H5.out hB)
          clear hB Q H5
          go_wp2_with fail
          refine (C1.out _ B6.out).mono ?_
          intro w7 hB
          have B7 := Lib.hid (Ext.trans B6.out hB)
          have H7 := Lib.hid (Ext.trans H6.out hB)
          clear hB C1 H6 B6
          go_wp2_with fail
          refine (RL.out _).mono ?_
          rintro _ w8 ⟨⟨x, cx, rfl, hJ, -⟩, hB⟩
          have S2 := Lib.hid (S.out w8 x cx (HI.out w8 (Ext.trans B7.out hB)) hJ)
          have H8 := Lib.hid (Ext.trans H7.out hB)
          clear hB hJ S B7 RL H7
          have qe : ((v1.length : Int) == 20000 * (v2.length : Int) + 1) = true := by rw [beq_iff_eq]; exact hln2.out
          go_wp2_with fail
          refine S2.out.mono ?_
          intro w9 hB
          have H9 := Lib.hid (Ext.trans H8.out hB)
          clear hB S2 H8
          go_wp2_with fail
          refine (awake1_any _ (HM.out.ext H9.out)).mono ?_
          intro wz hB
          have Hz := Lib.hid (Ext.trans H9.out hB)
          clear hB
          go_wp2
          go_ret
          exact ⟨rfl, Hz.out⟩

set_option maxRecDepth 100000 in
theorem codecLimits_walk (a0 a1 a2 : Int) (w : World) (hm : MaxL w) (w0 : (Lit.int .u8 a0).wf = true) (w1 : (Lit.int .i64 a1).wf = true) (w2 : (Lit.int .u8 a2).wf = true) :
    Gives Tryd.prog 10 #[.int .u8 a0, .int .i64 a1, .int .u8 a2] w (.bool true) := by
  have h0 : 0 ≤ a0 ∧ a0 ≤ 255 := by simpa [Lit.wf, IntKind.min, IntKind.max, IntKind.signed, IntKind.bits] using w0
  have h2 : 0 ≤ a2 ∧ a2 ≤ 255 := by simpa [Lit.wf, IntKind.min, IntKind.max, IntKind.signed, IntKind.bits] using w2
  have e0 : a0 = (((UInt8.ofNat a0.toNat).toNat : Nat) : Int) := by simp; omega
  obtain ⟨e, he⟩ := Int.eq_ofNat_of_zero_le h2.1
  rw [e0, he]
  exact limits_main _ a1 e _ w hm w1 (by omega) rfl

end Go.Proofs.YtpdmcikegcknlaaDoor
