/- codec.reader.integer: its contract; codec.ReadInt. -/
import Derived.Test.YtpdmcikegcknlaaDoorReader
import Derived.Test.YtpdmcikegcknlaaDoorRdPlain
import Derived.Laws.BitsAllLaws
namespace Go.Proofs.YtpdmcikegcknlaaDoor
open Go.RowKit
set_option linter.unusedVariables false

/-- what a call of integer leaves -/
def RdPost (s : List UInt8) (p k : Nat) (w : World) (e : Ending) (w' : World) : Prop :=
  ∃ q, e = .returned (.int .i64 (rdI (s.drop p)).1) ∧ q ≤ s.length ∧ Turn k (rdO s q (rdI (s.drop p)).2.2) w w' ∧ ((rdI (s.drop p)).2.2 = 0 → q = p + (rdI (s.drop p)).2.1)
theorem RdPost.mk {s : List UInt8} {p k q : Nat} {w w' : World} {n : Int} {z : Nat} {e : Int} (h : rdI (s.drop p) = (n, z, e)) (hq : q ≤ s.length) (hT : Turn k (rdO s q e) w w') (hz : e = 0 → q = p + z) : RdPost s p k w (.returned (.int .i64 n)) w' := by
  refine ⟨q, ?_, hq, ?_, ?_⟩
  · rw [h]
  · rw [h]; exact hT
  · rw [h]; exact hz

theorem or_u64 (m : Nat) (b : UInt8) (h : m < 2 ^ 56) : bits BinOp.or .u64 ((m : Int) * 256) (b.toNat : Int) = ((m * 256 + b.toNat : Nat) : Int) := by
  have hb := b.toNat_lt
  rw [show ((m : Int) * 256) = ((m * 256 : Nat) : Int) by omega, u64_or_nat _ _ (by omega) (by omega)]
  congr 1
  have := Nat.two_pow_add_eq_or_of_lt (i := 8) (b := b.toNat) hb m
  rw [show m * 256 = 2 ^ 8 * m by omega, ← this]

theorem integer_end (s : List UInt8) (p k : Nat) (w : World) (hs : s.length ≤ 140737488355328) (hp : s.length ≤ p) (hp2 : p ≤ s.length) (h : w.heap[k]? = some (rdO s p 0)) :
    Calls Tryd.prog 43 #[.pointer (some ⟨k, 0, none⟩)] w (RdPost s p k w) := by
  have hr : rdI (s.drop p) = (0, 0, 11) := by rw [List.drop_of_length_le hp]; rfl
  have HR := Lib.hid hr
  have h1 := rd1 h
  have HH := Lib.hid h
  clear h hr
  go_enter Tryd.func43, Tryd.ntmps43
  go_wp2_with fail
  refine (next_no s p 0 k _ (by unfold maxLen; omega) hp (by unfold maxLen; omega) HH.out).mono ?_
  rintro r w1 ⟨rfl, hT⟩
  rw [ferr0] at hT
  have h2 := rd2 hT.here
  have HT := Lib.hid hT
  clear hT
  go_wp2
  go_ret
  exact RdPost.mk HR.out hp2 HT.out (by omega)

theorem drop_at (s : List UInt8) (p : Nat) (hp : p < s.length) : s.drop p = s[p] :: s.drop (p + 1) := List.drop_eq_getElem_cons hp

theorem integer_bad (s : List UInt8) (p k : Nat) (w : World) (hs : s.length ≤ 140737488355328) (hp : p < s.length) (hc : s[p].toNat < 119 ∨ 136 < s[p].toNat) (h : w.heap[k]? = some (rdO s p 0)) :
    Calls Tryd.prog 43 #[.pointer (some ⟨k, 0, none⟩)] w (RdPost s p k w) := by
  have HR := Lib.hid (show rdI (s.drop p) = (0, 0, 12) by rw [drop_at s p hp, rdI_cons, if_pos hc])
  have h1 := rd1 h
  have HH := Lib.hid h
  have hb := s[p].toNat_lt
  clear h
  rcases hc with hc | hc
  all_goals
    go_enter Tryd.func43, Tryd.ntmps43
    go_wp2_with fail
    refine (next_yes s p 0 k _ (by unfold maxLen; omega) hp HH.out).mono ?_
    rintro r w1 ⟨rfl, hT⟩
    have h2 := rd2 hT.here
    have HT := Lib.hid hT
    clear hT
    go_wp2_with fail
    refine (fail_any s (p + 1) 0 12 k _ HT.out.here).mono ?_
    rintro r w2 ⟨rfl, hT2⟩
    rw [ferr0] at hT2
    have HT2 := Lib.hid (HT.out.trans hT2)
    clear hT2
    go_wp2
    go_ret
    exact RdPost.mk HR.out (by omega) HT2.out (by omega)

/-- pos: the string ends too early -/
theorem integer_short_pos (s : List UInt8) (p k j : Nat) (w : World) (hs : s.length ≤ 140737488355328) (hp : p < s.length) (hj : j ≤ 8) (hc : s[p].toNat = 128 + j) (ht : (s.drop (p + 1)).length < j) (h : w.heap[k]? = some (rdO s p 0)) :
    Calls Tryd.prog 43 #[.pointer (some ⟨k, 0, none⟩)] w (RdPost s p k w) := by
  have hh : s[p] = if false then headN j else headP j := UInt8.toNat_inj.1 (by rw [if_neg (by simp), headP_nat hj]; exact hc)
  have HR := Lib.hid (show rdI (s.drop p) = (0, 0, 11) by rw [drop_at s p hp, rdI_head s[p] _ false j hj hh, if_pos ht])
  have hlen : s.length < p + 1 + j := by simp at ht; omega
  have h1 := rd1 h
  have HH := Lib.hid h
  have hb := s[p].toNat_lt
  have HC := Lib.hid hc
  clear h hh ht hc
  go_enter Tryd.func43, Tryd.ntmps43
  go_wp2_with fail
  refine (next_yes s p 0 k _ (by unfold maxLen; omega) hp HH.out).mono ?_
  rintro r w1 ⟨rfl, hT⟩
  have h2 := rd2 hT.here
  have HT := Lib.hid hT
  clear hT
  rw [show ((s[p].toNat : Nat) : Int) = 128 + (j : Int) from by have := HC.out; omega]
  have hd1 : decide (128 + (j : Int) ≤ 127) = false := by simp; omega
  go_wp2
  rw [show (128 + (j : Int) - 128 : Int) = (j : Int) from by omega]
  go_loopw [7, 34] (fun n i wr => ∃ (a : Nat) (m : Int) (q : Nat) (e : Int), i = .int .i64 a ∧ a ≤ j ∧ n = .int .u64 m ∧ q ≤ s.length ∧ Turn k (rdO s q e) w wr ∧ ((e = 0 ∧ q = p + 1 + a) ∨ e = 11)) (fun _ i _ => j - (intOf i).toNat)
  case atStart => exact ⟨0, 0, p + 1, 0, rfl, by omega, rfl, by omega, HT.out, .inl ⟨rfl, rfl⟩⟩
  case round =>
    obtain ⟨a, m, q, e, rfl, ha, rfl, hq, hT, he⟩ := hrel
    have HT2 := Lib.hid hT
    have HE := Lib.hid he
    clear hT he
    by_cases hlt : a < j
    · by_cases hq2 : q < s.length
      · go_wp2_with fail
        refine (next_yes s q e k _ (by unfold maxLen; omega) hq2 HT2.out.here).mono ?_
        rintro r w2 ⟨rfl, hT3⟩
        have HT3 := Lib.hid (HT2.out.trans hT3)
        clear hT3
        have hbq := s[q].toNat_lt
        go_wp2
        go_roundw
        case rel => exact ⟨a + 1, _, q + 1, e, by go_num, by omega, rfl, by omega, HT3.out, by have := HE.out; omega⟩
        case measure => simp [intOf]; omega
      · go_wp2_with fail
        refine (next_no s q e k _ (by unfold maxLen; omega) (by omega) (by unfold maxLen; omega) HT2.out.here).mono ?_
        rintro r w2 ⟨rfl, hT3⟩
        have HT3 := Lib.hid (HT2.out.trans hT3)
        clear hT3
        have hfe : ferr e 11 = 11 := by unfold ferr; have := HE.out; split <;> omega
        have HF := Lib.hid hfe
        clear hfe
        go_wp2
        go_roundw
        case rel => exact ⟨a + 1, _, q, 11, by go_num, by omega, rfl, by omega, by rw [← HF.out]; exact HT3.out, .inr rfl⟩
        case measure => simp [intOf]; omega
    · have he : e = 11 := by have := HE.out; omega
      subst he
      have h2 := rd2 HT2.out.here
      go_wp2
      go_ret
      exact RdPost.mk HR.out hq HT2.out (by omega)

theorem dg_snoc_pos (c : List UInt8) (a : Nat) (h : a < c.length) : dg false (c.take (a + 1)) = dg false (c.take a) ++ [c[a]] := by
  rw [List.take_succ_eq_append_getElem h]; simp [dg]

/-- pos: the bytes are there -/
theorem integer_full_pos (s : List UInt8) (p k j : Nat) (w : World) (hs : s.length ≤ 140737488355328) (hp : p < s.length) (hj : j ≤ 8) (hc : s[p].toNat = 128 + j) (ht : j ≤ (s.drop (p + 1)).length) (h : w.heap[k]? = some (rdO s p 0)) :
    Calls Tryd.prog 43 #[.pointer (some ⟨k, 0, none⟩)] w (RdPost s p k w) := by
  have hh : s[p] = if false then headN j else headP j := UInt8.toNat_inj.1 (by rw [if_neg (by simp), headP_nat hj]; exact hc)
  have HR := Lib.hid (show rdI (s.drop p) = rdB false (dg false ((s.drop (p + 1)).take j)) by rw [drop_at s p hp, rdI_head s[p] _ false j hj hh, if_neg (by omega)])
  have hlen : p + 1 + j ≤ s.length := by simp at ht; omega
  have hcl : ((s.drop (p + 1)).take j).length = j := by simp; omega
  have HI := Lib.hid (enc_iff false s[p] ((s.drop (p + 1)).take j) (by omega) (by rw [hcl]; exact hh))
  have HS := Lib.hid (show s[p] :: (s.drop (p + 1)).take j = (s.take (p + 1 + j)).drop p by
    rw [List.drop_take, drop_at s p hp, show p + 1 + j - p = j + 1 by omega, List.take_succ_cons])
  have HG := Lib.hid (show ∀ a, a < j → dg false ((s.drop (p + 1)).take (a + 1)) = dg false ((s.drop (p + 1)).take a) ++ [s[p + 1 + a]?.getD 0] by
    intro a ha
    rw [dg_snoc_pos _ a (by simp; omega)]
    simp [List.getElem_drop, show p + 1 + a < s.length by omega])
  have h1 := rd1 h
  have HH := Lib.hid h
  have HL := Lib.hid ht
  have hb := s[p].toNat_lt
  have HC := Lib.hid hc
  clear h hh ht hc hcl
  generalize (s.drop (p + 1)) = t at *
  go_enter Tryd.func43, Tryd.ntmps43
  go_wp2_with fail
  refine (next_yes s p 0 k _ (by unfold maxLen; omega) hp HH.out).mono ?_
  rintro r w1 ⟨rfl, hT⟩
  have h2 := rd2 hT.here
  have HT := Lib.hid hT
  clear hT
  rw [show ((s[p].toNat : Nat) : Int) = 128 + (j : Int) from by have := HC.out; omega]
  have hd1 : decide (128 + (j : Int) ≤ 127) = false := by simp; omega
  go_wp2
  rw [show (128 + (j : Int) - 128 : Int) = (j : Int) from by omega]
  go_loopw [7, 34] (fun n i wr => ∃ (a : Nat), i = .int .i64 a ∧ a ≤ j ∧ n = .int .u64 (val (dg false (t.take a)) : Int) ∧ Turn k (rdO s (p + 1 + a) 0) w wr) (fun _ i _ => j - (intOf i).toNat)
  case atStart => exact ⟨0, rfl, by omega, by simp [dg, val], HT.out⟩
  case round =>
    obtain ⟨a, rfl, ha, rfl, hT⟩ := hrel
    have HT2 := Lib.hid hT
    clear hT
    by_cases hlt : a < j
    · have hm : val (dg false (t.take a)) < 2 ^ 56 := by
        have h1 := val_lt (dg false (t.take a))
        have h2 : (dg false (t.take a)).length ≤ 7 := by rw [dg_len, List.length_take]; omega
        have h3 : 256 ^ (dg false (t.take a)).length ≤ 256 ^ 7 := Nat.pow_le_pow_right (by omega) h2
        omega
      have hg := HG.out a hlt
      have hq2 : p + 1 + a < s.length := by omega
      generalize hM : val (dg false (t.take a)) = m at *
      have HV := Lib.hid (show val (dg false (t.take (a + 1))) = m * 256 + (s[p + 1 + a]).toNat by rw [hg, val_snoc, hM]; simp [hq2])
      have ho := or_u64 m (s[p + 1 + a]) hm
      clear hg hM
      have hbq := s[p + 1 + a].toNat_lt
      go_wp2_with fail
      refine (next_yes s (p + 1 + a) 0 k _ (by unfold maxLen; omega) hq2 HT2.out.here).mono ?_
      rintro r w2 ⟨rfl, hT3⟩
      have HT3 := Lib.hid (HT2.out.trans hT3)
      clear hT3
      go_wp2
      go_roundw
      case rel => exact ⟨a + 1, by go_num, by omega, by rw [HV.out]; exact int_eq (by omega), HT3.out⟩
      case measure => simp [intOf]; omega
    · obtain rfl : a = j := by omega
      clear HG HC HH hlt
      have hdl : (dg false (t.take a)).length ≤ 8 := by rw [dg_len, List.length_take]; omega
      have hN8 := val_lt8 hdl
      generalize hD : dg false (t.take a) = d at *
      have HD := Lib.hid hD
      clear hD
      have h2 := rd2 HT2.out.here
      by_cases hbig : 4611686018427387904 < val d
      · have HB := Lib.hid (show rdI (s.drop p) = (0, 0, 12) by rw [HR.out, rdB, if_pos (by simp; omega)])
        clear HR HI hdl HD
        generalize val d = N at *
        rcases Nat.lt_or_ge 4611686018427387904 N with hgt | hle
        · have hd3 : decide ((4611686018427387904 : Int) < (N : Int)) = true := by simp; omega
          go_wp2_with fail
          refine (fail_any s (p + 1 + a) 0 12 k _ HT2.out.here).mono ?_
          rintro r w2 ⟨rfl, hT3⟩
          rw [ferr0] at hT3
          have HT3 := Lib.hid (HT2.out.trans hT3)
          clear hT3
          go_wp2
          go_ret
          exact RdPost.mk HB.out (by omega) HT3.out (by omega)
        · omega
      · cases hl : lead d with
        | true =>
          have HB := Lib.hid (show rdI (s.drop p) = (0, 0, 12) by rw [HR.out, rdB, if_pos (by simp [hl])])
          have hne : enc (outOf false d) ≠ (s.take (p + 1 + a)).drop p := fun e => by rw [HS.out] at HI; exact absurd (HI.out.1 e) (by rw [hl]; simp)
          have hq : (enc (outOf false d) == (s.take (p + 1 + a)).drop p) = false := by rw [beq_eq_false_iff_ne]; exact hne
          clear HR HI hne hl
          unfold outOf at hq
          simp only [Bool.false_eq_true, if_false] at hq
          generalize val d = N at *
          have hc0 := Up.cell (rd0 HT2.out.here)
          have hc1 := Up.cell (rd1 HT2.out.here)
          have hw := wrapi (x := (N : Int)) (by omega) (by omega)
          go_wp2
          refine wp_region_up (by kernel_rfl) (by kernel_rfl) ?_
          repeat (go_big_quiet_step ((go_at_call 35; exact Up.call (integer_any _ _ (by omega) (by omega)))))
          refine wpQuiet_nil ?_
          rintro w3 ⟨U, rfl⟩
          have HTU := Lib.hid (HT2.out.of_below U.ext.below)
          go_wp2_with fail
          refine (fail_any s (p + 1 + a) 0 12 k _ HTU.out.here).mono ?_
          rintro r w2 ⟨rfl, hT3⟩
          rw [ferr0] at hT3
          have HT3 := Lib.hid (HTU.out.trans hT3)
          clear hT3
          go_wp2
          go_ret
          exact RdPost.mk HB.out (by omega) HT3.out (by omega)
        | false =>
          have hdl2 : d.length = a := by rw [← HD.out, dg_len, List.length_take]; have := HL.out; omega
          have HB := Lib.hid (show rdI (s.drop p) = (outOf false d, 1 + d.length, 0) by rw [HR.out, rdB, if_neg (by simp [hl]; omega)]; rfl)
          have hne : enc (outOf false d) = (s.take (p + 1 + a)).drop p := by rw [HS.out] at HI; exact HI.out.2 hl
          have hq : (enc (outOf false d) == (s.take (p + 1 + a)).drop p) = true := by rw [beq_iff_eq]; exact hne
          have HLE := Lib.hid hdl2
          clear HR HI hne hl hdl2
          unfold outOf at hq HB
          simp only [Bool.false_eq_true, if_false] at hq HB
          generalize val d = N at *
          have hc0 := Up.cell (rd0 HT2.out.here)
          have hc1 := Up.cell (rd1 HT2.out.here)
          have hw := wrapi (x := (N : Int)) (by omega) (by omega)
          go_wp2
          refine wp_region_up (by kernel_rfl) (by kernel_rfl) ?_
          repeat (go_big_quiet_step ((go_at_call 35; exact Up.call (integer_any _ _ (by omega) (by omega)))))
          refine wpQuiet_nil ?_
          rintro w3 ⟨U, rfl⟩
          have HTU := Lib.hid (HT2.out.of_below U.ext.below)
          go_wp2
          go_ret
          exact RdPost.mk HB.out (by omega) HTU.out (fun _ => by have := HLE.out; omega)

/-- neg: the string ends too early -/
theorem integer_short_neg (s : List UInt8) (p k j : Nat) (w : World) (hs : s.length ≤ 140737488355328) (hp : p < s.length) (hj : j ≤ 8) (hc : s[p].toNat = 127 - j) (ht : (s.drop (p + 1)).length < j) (h : w.heap[k]? = some (rdO s p 0)) :
    Calls Tryd.prog 43 #[.pointer (some ⟨k, 0, none⟩)] w (RdPost s p k w) := by
  have hh : s[p] = if true then headN j else headP j := UInt8.toNat_inj.1 (by rw [if_pos rfl, headN_nat hj]; exact hc)
  have HR := Lib.hid (show rdI (s.drop p) = (0, 0, 11) by rw [drop_at s p hp, rdI_head s[p] _ true j hj hh, if_pos ht])
  have hlen : s.length < p + 1 + j := by simp at ht; omega
  have h1 := rd1 h
  have HH := Lib.hid h
  have hb := s[p].toNat_lt
  have HC := Lib.hid hc
  clear h hh ht hc
  go_enter Tryd.func43, Tryd.ntmps43
  go_wp2_with fail
  refine (next_yes s p 0 k _ (by unfold maxLen; omega) hp HH.out).mono ?_
  rintro r w1 ⟨rfl, hT⟩
  have h2 := rd2 hT.here
  have HT := Lib.hid hT
  clear hT
  rw [show ((s[p].toNat : Nat) : Int) = 127 - (j : Int) from by have := HC.out; omega]
  have hd1 : decide (127 - (j : Int) ≤ 127) = true := by simp; omega
  go_wp2
  rw [show (127 - (127 - (j : Int)) : Int) = (j : Int) from by omega]
  go_loopw [7, 34] (fun n i wr => ∃ (a : Nat) (m : Int) (q : Nat) (e : Int), i = .int .i64 a ∧ a ≤ j ∧ n = .int .u64 m ∧ q ≤ s.length ∧ Turn k (rdO s q e) w wr ∧ ((e = 0 ∧ q = p + 1 + a) ∨ e = 11)) (fun _ i _ => j - (intOf i).toNat)
  case atStart => exact ⟨0, 0, p + 1, 0, rfl, by omega, rfl, by omega, HT.out, .inl ⟨rfl, rfl⟩⟩
  case round =>
    obtain ⟨a, m, q, e, rfl, ha, rfl, hq, hT, he⟩ := hrel
    have HT2 := Lib.hid hT
    have HE := Lib.hid he
    clear hT he
    by_cases hlt : a < j
    · by_cases hq2 : q < s.length
      · go_wp2_with fail
        refine (next_yes s q e k _ (by unfold maxLen; omega) hq2 HT2.out.here).mono ?_
        rintro r w2 ⟨rfl, hT3⟩
        have HT3 := Lib.hid (HT2.out.trans hT3)
        clear hT3
        have hbq := s[q].toNat_lt
        go_wp2
        go_roundw
        case rel => exact ⟨a + 1, _, q + 1, e, by go_num, by omega, rfl, by omega, HT3.out, by have := HE.out; omega⟩
        case measure => simp [intOf]; omega
      · go_wp2_with fail
        refine (next_no s q e k _ (by unfold maxLen; omega) (by omega) (by unfold maxLen; omega) HT2.out.here).mono ?_
        rintro r w2 ⟨rfl, hT3⟩
        have HT3 := Lib.hid (HT2.out.trans hT3)
        clear hT3
        have hfe : ferr e 11 = 11 := by unfold ferr; have := HE.out; split <;> omega
        have HF := Lib.hid hfe
        clear hfe
        go_wp2
        go_roundw
        case rel => exact ⟨a + 1, _, q, 11, by go_num, by omega, rfl, by omega, by rw [← HF.out]; exact HT3.out, .inr rfl⟩
        case measure => simp [intOf]; omega
    · have he : e = 11 := by have := HE.out; omega
      subst he
      have h2 := rd2 HT2.out.here
      go_wp2
      go_ret
      exact RdPost.mk HR.out hq HT2.out (by omega)

theorem dg_snoc_neg (c : List UInt8) (a : Nat) (h : a < c.length) : dg true (c.take (a + 1)) = dg true (c.take a) ++ [255 - c[a]] := by
  exact map_take_snoc c _ a h

/-- neg: the bytes are there -/
theorem integer_full_neg (s : List UInt8) (p k j : Nat) (w : World) (hs : s.length ≤ 140737488355328) (hp : p < s.length) (hj : j ≤ 8) (hc : s[p].toNat = 127 - j) (ht : j ≤ (s.drop (p + 1)).length) (h : w.heap[k]? = some (rdO s p 0)) :
    Calls Tryd.prog 43 #[.pointer (some ⟨k, 0, none⟩)] w (RdPost s p k w) := by
  have hh : s[p] = if true then headN j else headP j := UInt8.toNat_inj.1 (by rw [if_pos rfl, headN_nat hj]; exact hc)
  have HR := Lib.hid (show rdI (s.drop p) = rdB true (dg true ((s.drop (p + 1)).take j)) by rw [drop_at s p hp, rdI_head s[p] _ true j hj hh, if_neg (by omega)])
  have hlen : p + 1 + j ≤ s.length := by simp at ht; omega
  have hcl : ((s.drop (p + 1)).take j).length = j := by simp; omega
  have HI := Lib.hid (enc_iff true s[p] ((s.drop (p + 1)).take j) (by omega) (by rw [hcl]; exact hh))
  have HS := Lib.hid (show s[p] :: (s.drop (p + 1)).take j = (s.take (p + 1 + j)).drop p by
    rw [List.drop_take, drop_at s p hp, show p + 1 + j - p = j + 1 by omega, List.take_succ_cons])
  have HG := Lib.hid (show ∀ a, a < j → dg true ((s.drop (p + 1)).take (a + 1)) = dg true ((s.drop (p + 1)).take a) ++ [255 - s[p + 1 + a]?.getD 0] by
    intro a ha
    rw [dg_snoc_neg _ a (by simp; omega)]
    simp [List.getElem_drop, show p + 1 + a < s.length by omega])
  have h1 := rd1 h
  have HH := Lib.hid h
  have HL := Lib.hid ht
  have hb := s[p].toNat_lt
  have HC := Lib.hid hc
  clear h hh ht hc hcl
  generalize (s.drop (p + 1)) = t at *
  go_enter Tryd.func43, Tryd.ntmps43
  go_wp2_with fail
  refine (next_yes s p 0 k _ (by unfold maxLen; omega) hp HH.out).mono ?_
  rintro r w1 ⟨rfl, hT⟩
  have h2 := rd2 hT.here
  have HT := Lib.hid hT
  clear hT
  rw [show ((s[p].toNat : Nat) : Int) = 127 - (j : Int) from by have := HC.out; omega]
  have hd1 : decide (127 - (j : Int) ≤ 127) = true := by simp; omega
  go_wp2
  rw [show (127 - (127 - (j : Int)) : Int) = (j : Int) from by omega]
  go_loopw [7, 34] (fun n i wr => ∃ (a : Nat), i = .int .i64 a ∧ a ≤ j ∧ n = .int .u64 (val (dg true (t.take a)) : Int) ∧ Turn k (rdO s (p + 1 + a) 0) w wr) (fun _ i _ => j - (intOf i).toNat)
  case atStart => exact ⟨0, rfl, by omega, by simp [dg, val], HT.out⟩
  case round =>
    obtain ⟨a, rfl, ha, rfl, hT⟩ := hrel
    have HT2 := Lib.hid hT
    clear hT
    by_cases hlt : a < j
    · have hm : val (dg true (t.take a)) < 2 ^ 56 := by
        have h1 := val_lt (dg true (t.take a))
        have h2 : (dg true (t.take a)).length ≤ 7 := by rw [dg_len, List.length_take]; omega
        have h3 : 256 ^ (dg true (t.take a)).length ≤ 256 ^ 7 := Nat.pow_le_pow_right (by omega) h2
        omega
      have hg := HG.out a hlt
      have hq2 : p + 1 + a < s.length := by omega
      generalize hM : val (dg true (t.take a)) = m at *
      have HV := Lib.hid (show val (dg true (t.take (a + 1))) = m * 256 + (255 - s[p + 1 + a]).toNat by rw [hg, val_snoc, hM]; simp [hq2])
      have ho := or_u64 m (255 - s[p + 1 + a]) hm
      have hos := Lib.hid (sub255 s[p + 1 + a])
      rw [hos.out] at ho
      clear hg hM
      have hbq := s[p + 1 + a].toNat_lt
      go_wp2_with fail
      refine (next_yes s (p + 1 + a) 0 k _ (by unfold maxLen; omega) hq2 HT2.out.here).mono ?_
      rintro r w2 ⟨rfl, hT3⟩
      have HT3 := Lib.hid (HT2.out.trans hT3)
      clear hT3
      go_wp2
      go_roundw
      case rel => exact ⟨a + 1, by go_num, by omega, by rw [HV.out]; exact int_eq (by have := hos.out; omega), HT3.out⟩
      case measure => simp [intOf]; omega
    · obtain rfl : a = j := by omega
      clear HG HC HH hlt
      have hdl : (dg true (t.take a)).length ≤ 8 := by rw [dg_len, List.length_take]; omega
      have hN8 := val_lt8 hdl
      generalize hD : dg true (t.take a) = d at *
      have HD := Lib.hid hD
      clear hD
      have h2 := rd2 HT2.out.here
      by_cases hbig : 4611686018427387904 ≤ val d
      · have HB := Lib.hid (show rdI (s.drop p) = (0, 0, 12) by rw [HR.out, rdB, if_pos (by simp; omega)])
        clear HR HI hdl HD
        generalize val d = N at *
        rcases Nat.lt_or_ge 4611686018427387904 N with hgt | hle
        · have hd3 : decide ((4611686018427387904 : Int) < (N : Int)) = true := by simp; omega
          go_wp2_with fail
          refine (fail_any s (p + 1 + a) 0 12 k _ HT2.out.here).mono ?_
          rintro r w2 ⟨rfl, hT3⟩
          rw [ferr0] at hT3
          have HT3 := Lib.hid (HT2.out.trans hT3)
          clear hT3
          go_wp2
          go_ret
          exact RdPost.mk HB.out (by omega) HT3.out (by omega)
        · have hd3 : decide ((4611686018427387904 : Int) < (N : Int)) = false := by simp; omega
          have hd4 : decide ((4611686018427387904 : Int) ≤ (N : Int)) = true := by simp; omega
          go_wp2_with fail
          refine (fail_any s (p + 1 + a) 0 12 k _ HT2.out.here).mono ?_
          rintro r w2 ⟨rfl, hT3⟩
          rw [ferr0] at hT3
          have HT3 := Lib.hid (HT2.out.trans hT3)
          clear hT3
          go_wp2
          go_ret
          exact RdPost.mk HB.out (by omega) HT3.out (by omega)
      · cases hl : lead d with
        | true =>
          have HB := Lib.hid (show rdI (s.drop p) = (0, 0, 12) by rw [HR.out, rdB, if_pos (by simp [hl])])
          have hne : enc (outOf true d) ≠ (s.take (p + 1 + a)).drop p := fun e => by rw [HS.out] at HI; exact absurd (HI.out.1 e) (by rw [hl]; simp)
          have hq : (enc (outOf true d) == (s.take (p + 1 + a)).drop p) = false := by rw [beq_eq_false_iff_ne]; exact hne
          clear HR HI hne hl
          unfold outOf at hq
          simp only [if_true] at hq
          generalize val d = N at *
          have hc0 := Up.cell (rd0 HT2.out.here)
          have hc1 := Up.cell (rd1 HT2.out.here)
          have hw := wrapi (x := (N : Int)) (by omega) (by omega)
          go_wp2
          refine wp_region_up (by kernel_rfl) (by kernel_rfl) ?_
          repeat (go_big_quiet_step ((go_at_call 35; exact Up.call (integer_any _ _ (by omega) (by omega)))))
          refine wpQuiet_nil ?_
          rintro w3 ⟨U, rfl⟩
          have HTU := Lib.hid (HT2.out.of_below U.ext.below)
          go_wp2_with fail
          refine (fail_any s (p + 1 + a) 0 12 k _ HTU.out.here).mono ?_
          rintro r w2 ⟨rfl, hT3⟩
          rw [ferr0] at hT3
          have HT3 := Lib.hid (HTU.out.trans hT3)
          clear hT3
          go_wp2
          go_ret
          exact RdPost.mk HB.out (by omega) HT3.out (by omega)
        | false =>
          have hdl2 : d.length = a := by rw [← HD.out, dg_len, List.length_take]; have := HL.out; omega
          have HB := Lib.hid (show rdI (s.drop p) = (outOf true d, 1 + d.length, 0) by rw [HR.out, rdB, if_neg (by simp [hl]; omega)]; rfl)
          have hne : enc (outOf true d) = (s.take (p + 1 + a)).drop p := by rw [HS.out] at HI; exact HI.out.2 hl
          have hq : (enc (outOf true d) == (s.take (p + 1 + a)).drop p) = true := by rw [beq_iff_eq]; exact hne
          have HLE := Lib.hid hdl2
          clear HR HI hne hl hdl2
          unfold outOf at hq HB
          simp only [if_true] at hq HB
          generalize val d = N at *
          have hc0 := Up.cell (rd0 HT2.out.here)
          have hc1 := Up.cell (rd1 HT2.out.here)
          have hw := wrapi (x := (N : Int)) (by omega) (by omega)
          go_wp2
          refine wp_region_up (by kernel_rfl) (by kernel_rfl) ?_
          repeat (go_big_quiet_step ((go_at_call 35; exact Up.call (integer_any _ _ (by omega) (by omega)))))
          refine wpQuiet_nil ?_
          rintro w3 ⟨U, rfl⟩
          have HTU := Lib.hid (HT2.out.of_below U.ext.below)
          go_wp2
          go_ret
          exact RdPost.mk HB.out (by omega) HTU.out (fun _ => by have := HLE.out; omega)

theorem head_cases (c : UInt8) (h : ¬ (c.toNat < 119 ∨ 136 < c.toNat)) : (∃ j, j ≤ 8 ∧ c.toNat = 128 + j) ∨ (∃ j, j ≤ 8 ∧ c.toNat = 127 - j) := by
  by_cases h1 : c.toNat < 128
  · exact .inr ⟨127 - c.toNat, by omega, by omega⟩
  · exact .inl ⟨c.toNat - 128, by omega, by omega⟩

/-- codec.reader.integer, at a reader without an error -/
theorem integer_rd (s : List UInt8) (p k : Nat) (w : World) (hs : s.length ≤ 140737488355328) (hp : p ≤ s.length) (h : w.heap[k]? = some (rdO s p 0)) :
    Calls Tryd.prog 43 #[.pointer (some ⟨k, 0, none⟩)] w (RdPost s p k w) := by
  by_cases h0 : s.length ≤ p
  · exact integer_end s p k w hs h0 hp h
  · have hp' : p < s.length := by omega
    by_cases hc : s[p].toNat < 119 ∨ 136 < s[p].toNat
    · exact integer_bad s p k w hs hp' hc h
    · rcases head_cases _ hc with ⟨j, hj, hc2⟩ | ⟨j, hj, hc2⟩
      · by_cases ht : (s.drop (p + 1)).length < j
        · exact integer_short_pos s p k j w hs hp' hj hc2 ht h
        · exact integer_full_pos s p k j w hs hp' hj hc2 (by omega) h
      · by_cases ht : (s.drop (p + 1)).length < j
        · exact integer_short_neg s p k j w hs hp' hj hc2 ht h
        · exact integer_full_neg s p k j w hs hp' hj hc2 (by omega) h

/-- codec.ReadInt -/
def rdV (s : List UInt8) : Value := .tuple #[.int .i64 (rdI s).1, .int .i64 ((rdI s).2.1 : Int), .int .i64 (rdI s).2.2]
theorem rdV_err {s : List UInt8} (h : (rdI s).2.2 ≠ 0) : rdV s = .tuple #[.int .i64 0, .int .i64 0, .int .i64 (rdI s).2.2] := by
  rcases rdI_err s with h1 | ⟨h1, h2, _⟩
  · exact absurd h1 h
  · unfold rdV; rw [h1, h2]; rfl

theorem ReadInt_any (s : List UInt8) (w : World) (hs : s.length ≤ 140737488355328) : Gives Tryd.prog 25 #[sV s] w (rdV s) := by
  have HI := Lib.hid (fun W h => integer_rd s 0 w.heap.size W hs (Nat.zero_le _) h)
  unfold Gives
  go_enter Tryd.func25, Tryd.ntmps25
  go_wp2_with fail
  refine (HI.out _ (alloc_here _ _)).mono ?_
  rintro r w1 ⟨q, rfl, hq, hT, hz⟩
  rw [List.drop_zero] at hT hz ⊢
  have HB := Lib.hid (((Below.refl _ w).alloc (Nat.le_refl _) _).trans (hT.below (Nat.le_refl _) (by simp)))
  have h1 := rd1 hT.here
  have h2 := rd2 hT.here
  clear hT
  by_cases he : (rdI s).2.2 = 0
  · have HV := Lib.hid (show rdV s = .tuple #[.int .i64 (rdI s).1, .int .i64 q, .int .i64 0] by unfold rdV; rw [he, hz he, Nat.zero_add])
    rw [he] at h2
    clear he hz
    go_wp2
    go_quiet (fail)
    go_wp2
    go_ret3
    rw [HV.out]
    exact ⟨rfl, Ext.drewN' HB.out⟩
  · have HV := Lib.hid (rdV_err he)
    have hb : ((rdI s).2.2 == 0) = false := by rw [beq_eq_false_iff_ne]; exact he
    have hb2 : ((rdI s).2.2 != 0) = true := by rw [bne_iff_ne]; exact he
    clear hz he
    go_wp2
    go_quiet (fail)
    go_wp2
    go_ret3
    rw [HV.out]
    exact ⟨rfl, Ext.drewN' HB.out⟩

end Go.Proofs.YtpdmcikegcknlaaDoor
