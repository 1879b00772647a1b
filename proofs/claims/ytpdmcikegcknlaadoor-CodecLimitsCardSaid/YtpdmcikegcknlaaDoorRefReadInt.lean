/- nurseryref01.ReadInt: its contract. -/
import Derived.Test.YtpdmcikegcknlaaDoorReadInt
namespace Go.Proofs.YtpdmcikegcknlaaDoor
open Go.RowKit
set_option linter.unusedVariables false

theorem val_take_le (d : List UInt8) (a : Nat) : val (d.take a) ≤ val d := by
  have h : ∀ x y : List UInt8, val x ≤ val (x ++ y) := by
    intro x y
    refine snoc_induct (P := fun y => val x ≤ val (x ++ y)) (by simp) ?_ y
    intro l b ih
    rw [← List.append_assoc, val_snoc]; omega
  have := h (d.take a) (d.drop a)
  rwa [List.take_append_drop] at this
theorem val_take_succ (d : List UInt8) (a : Nat) (h : a < d.length) : val (d.take (a + 1)) = val (d.take a) * 256 + d[a].toNat := by
  rw [List.take_succ_eq_append_getElem h, val_snoc]
theorem lead_zero (d : List UInt8) (h : 0 < d.length) : lead d = (d[0] == 0) := by
  cases d with
  | nil => simp at h
  | cons c d => rfl

theorem refReadInt_nil (w : World) : Gives Tryd.prog 26 #[sV []] w (rdV []) := by
  unfold Gives
  go_enter Tryd.func26, Tryd.ntmps26
  go_wp2
  go_ret3
  exact ⟨rfl, Below.refl _ _⟩

theorem cons_at (s : List UInt8) (h : 0 < s.length) : s = s[0] :: s.drop 1 := by
  have := drop_at s 0 h
  rw [List.drop_zero] at this
  exact this

theorem refReadInt_bad (s : List UInt8) (w : World) (hs : s.length ≤ 140737488355328) (h0 : 0 < s.length) (hc : s[0].toNat < 119 ∨ 136 < s[0].toNat) : Gives Tryd.prog 26 #[sV s] w (rdV s) := by
  have HV := Lib.hid (show rdV s = .tuple #[.int .i64 0, .int .i64 0, .int .i64 12] by
    unfold rdV; rw [show rdI s = rdI (s[0] :: s.drop 1) from congrArg rdI (cons_at s h0), rdI_cons, if_pos hc]; rfl)
  have hb := s[0].toNat_lt
  have hl : ((s.length : Int) == 0) = false := by rw [beq_eq_false_iff_ne]; omega
  unfold Gives
  rcases hc with hc | hc
  · go_enter Tryd.func26, Tryd.ntmps26
    go_wp2
    go_ret3
    rw [HV.out]
    exact ⟨rfl, Below.refl _ _⟩
  · have hd : decide ((s[0].toNat : Int) < 119) = false := by simp; omega
    have hd2 : decide ((136 : Int) < (s[0].toNat : Int)) = true := by simp; omega
    go_enter Tryd.func26, Tryd.ntmps26
    go_wp2
    go_ret3
    rw [HV.out]
    exact ⟨rfl, Below.refl _ _⟩

set_option maxRecDepth 100000 in
theorem refReadInt_short_pos (s : List UInt8) (j : Nat) (w : World) (hs : s.length ≤ 140737488355328) (h0 : 0 < s.length) (hj : j ≤ 8) (hc : s[0].toNat = 128 + j) (ht : s.length < 1 + j) : Gives Tryd.prog 26 #[sV s] w (rdV s) := by
  have hl : ((s.length : Int) == 0) = false := by rw [beq_eq_false_iff_ne]; omega
  have hh : s[0] = if false then headN j else headP j := UInt8.toNat_inj.1 (by rw [if_neg (by simp), headP_nat hj]; exact hc)
  have HV := Lib.hid (show rdV s = .tuple #[.int .i64 0, .int .i64 0, .int .i64 11] by
    unfold rdV; rw [show rdI s = rdI (s[0] :: s.drop 1) from congrArg rdI (cons_at s h0), rdI_head s[0] _ false j hj hh, if_pos (by simp; omega)]; rfl)
  have hci : ((s[0].toNat : Nat) : Int) = 128 + (j : Int) := by omega
  have hd : decide (128 + (j : Int) < 119) = false := by simp; omega
  have hd2 : decide ((136 : Int) < 128 + (j : Int)) = false := by simp; omega
  have hd3 : decide (128 + (j : Int) < 128) = false := by simp; omega
  clear hh hc
  unfold Gives
  go_enter Tryd.func26, Tryd.ntmps26
  go_wp2
  go_ret3
  rw [HV.out]
  exact ⟨rfl, Below.refl _ _⟩

set_option maxRecDepth 100000 in
set_option maxHeartbeats 1000000 in
theorem refReadInt_full_pos (s : List UInt8) (j : Nat) (w : World) (hs : s.length ≤ 140737488355328) (h0 : 0 < s.length) (hj : j ≤ 8) (hc : s[0].toNat = 128 + j) (ht : 1 + j ≤ s.length) : Gives Tryd.prog 26 #[sV s] w (rdV s) := by
  have hl : ((s.length : Int) == 0) = false := by rw [beq_eq_false_iff_ne]; omega
  have hh : s[0] = if false then headN j else headP j := UInt8.toNat_inj.1 (by rw [if_neg (by simp), headP_nat hj]; exact hc)
  have HR := Lib.hid (show rdI s = rdB false (dg false ((s.drop 1).take j)) by rw [show rdI s = rdI (s[0] :: s.drop 1) from congrArg rdI (cons_at s h0), rdI_head s[0] _ false j hj hh, if_neg (by simp; omega)])
  have HB := Lib.hid (show ∀ a (h : a < j) (h2 : a < (dg false ((s.drop 1).take j)).length) (h3 : a + 1 < s.length), ((dg false ((s.drop 1).take j))[a].toNat : Int) = (s[a + 1].toNat : Int) by
    intro a h h2 h3
    simp only [dg, Bool.false_eq_true, if_false, List.getElem_take, List.getElem_drop, Nat.add_comm 1 a])
  have hdl : (dg false ((s.drop 1).take j)).length = j := by rw [dg_len, List.length_take, List.length_drop]; omega
  generalize dg false ((s.drop 1).take j) = d at *
  have hci : ((s[0].toNat : Nat) : Int) = 128 + (j : Int) := by omega
  have hd : decide (128 + (j : Int) < 119) = false := by simp; omega
  have hd2 : decide ((136 : Int) < 128 + (j : Int)) = false := by simp; omega
  have hd3 : decide (128 + (j : Int) < 128) = false := by simp; omega
  clear hh hc
  unfold Gives
  go_enter Tryd.func26, Tryd.ntmps26
  go_wp2
  rw [show (128 + (j : Int) - 128 : Int) = (j : Int) from by omega]
  go_loop [8, 9] (fun n i => ∃ (a : Nat), i = .int .i64 ((a : Int) + 1) ∧ a ≤ j ∧ n = .int .i64 (val (d.take a) : Int) ∧ val (d.take a) ≤ 4611686018427387904 ∧ (0 < a → lead d = false)) (fun _ i => j + 1 - (intOf i).toNat)
  case atStart => exact ⟨0, rfl, by omega, by rw [List.take_zero]; rfl, by rw [List.take_zero, val_nil]; omega, by omega⟩
  case round =>
    obtain ⟨a, rfl, ha, rfl, hv, hl0⟩ := hrel
    have HL := Lib.hid hl0
    clear hl0
    by_cases hlt : a < j
    · have h1s : a + 1 < s.length := by omega
      have had : a < d.length := by omega
      have hby := HB.out a hlt had h1s
      have HN := Lib.hid (val_take_succ d a had)
      have HM := Lib.hid (val_take_le d (a + 1))
      have hdb := d[a].toNat_lt
      have HZ := Lib.hid (show a = 0 → (lead d = (d[a] == 0)) by intro e; subst e; exact lead_zero d had)
      have HU := Lib.hid (show d[a] = 0 ↔ d[a].toNat = 0 from ⟨fun e => by rw [e]; rfl, fun e => UInt8.toNat_inj.1 (by simpa using e)⟩)
      generalize hbb : d[a].toNat = b at *
      have hbs : ((s[a + 1].toNat : Nat) : Int) = (b : Int) := by omega
      clear hbb hby
      generalize hM : val (d.take a) = m at *
      clear hM
      by_cases hz : a = 0 ∧ b = 0
      · have HV := Lib.hid (show rdV s = .tuple #[.int .i64 0, .int .i64 0, .int .i64 12] by
          unfold rdV; rw [HR.out, rdB, if_pos (by left; rw [HZ.out hz.1, beq_iff_eq]; exact HU.out.2 hz.2)]; rfl)
        have z1 : ((a : Int) + 1 == 1) = true := by rw [beq_iff_eq]; omega
        have z2 : ((b : Int) == 0) = true := by rw [beq_iff_eq]; omega
        clear hz
        go_wp2
        go_ret3
        rw [HV.out]
        exact ⟨rfl, Below.refl _ _⟩
      · have HLd := Lib.hid (show lead d = false by
          by_cases e : a = 0
          · rw [HZ.out e, beq_eq_false_iff_ne]; intro e2; exact hz ⟨e, HU.out.1 e2⟩
          · exact HL.out (by omega))
        have hcase : (((a : Int) + 1 == 1) = true ∧ ((b : Int) == 0) = false) ∨ ((a : Int) + 1 == 1) = false := by
          by_cases e : a = 0
          · left; exact ⟨by rw [beq_iff_eq]; omega, by rw [beq_eq_false_iff_ne]; omega⟩
          · right; rw [beq_eq_false_iff_ne]; omega
        clear hz
        by_cases hbig : 18014398509481984 < m
        · have HV := Lib.hid (show rdV s = .tuple #[.int .i64 0, .int .i64 0, .int .i64 12] by
            unfold rdV; rw [HR.out, rdB, if_pos (by right; left; have := HN.out; have := HM.out; omega)]; rfl)
          have hd4 : decide ((18014398509481984 : Int) < (m : Int)) = true := by simp; omega
          rcases hcase with ⟨z1, z2⟩ | z1
          all_goals
            go_wp2
            go_ret3
            rw [HV.out]
            exact ⟨rfl, Below.refl _ _⟩
        · have hd4 : decide ((18014398509481984 : Int) < (m : Int)) = false := by simp; omega
          by_cases hbig2 : 4611686018427387904 < m * 256 + b
          · have HV := Lib.hid (show rdV s = .tuple #[.int .i64 0, .int .i64 0, .int .i64 12] by
              unfold rdV; rw [HR.out, rdB, if_pos (by right; left; have := HN.out; have := HM.out; omega)]; rfl)
            have hd5 : decide ((4611686018427387904 : Int) < (m : Int) * 256 + (b : Int)) = true := by simp; omega
            rcases hcase with ⟨z1, z2⟩ | z1
            all_goals
              go_wp2
              go_ret3
              rw [HV.out]
              exact ⟨rfl, Below.refl _ _⟩
          · have hd5 : decide ((4611686018427387904 : Int) < (m : Int) * 256 + (b : Int)) = false := by simp; omega
            have hd6 : decide ((m : Int) * 256 + (b : Int) < 0) = false := by simp; omega
            rcases hcase with ⟨z1, z2⟩ | z1
            all_goals
              go_wp2
              go_round
              case rel => exact ⟨a + 1, by go_num, by omega, by rw [HN.out]; exact int_eq (by omega), by rw [HN.out]; omega, fun _ => HLd.out⟩
              case measure => simp [intOf]; omega
    · obtain rfl : a = j := by omega
      have hfull : d.take a = d := List.take_of_length_le (by omega)
      rw [hfull] at hv ⊢
      have HF := Lib.hid hfull
      have HLd := Lib.hid (show lead d = false by
        by_cases e : a = 0
        · have : d = [] := List.eq_nil_of_length_eq_zero (by omega)
          rw [this]; rfl
        · exact HL.out (by omega))
      clear hfull
      have HV := Lib.hid (show rdV s = .tuple #[.int .i64 (val d : Int), .int .i64 (1 + (a : Int)), .int .i64 0] by
        unfold rdV; rw [HR.out, rdB, if_neg (by simp [HLd.out]; omega), hdl]; simp)
      generalize val d = m at *
      go_wp2
      go_ret3
      rw [HV.out]
      exact ⟨rfl, Below.refl _ _⟩

set_option maxRecDepth 100000 in
theorem refReadInt_short_neg (s : List UInt8) (j : Nat) (w : World) (hs : s.length ≤ 140737488355328) (h0 : 0 < s.length) (hj : j ≤ 8) (hc : s[0].toNat = 127 - j) (ht : s.length < 1 + j) : Gives Tryd.prog 26 #[sV s] w (rdV s) := by
  have hl : ((s.length : Int) == 0) = false := by rw [beq_eq_false_iff_ne]; omega
  have hh : s[0] = if true then headN j else headP j := UInt8.toNat_inj.1 (by rw [if_pos rfl, headN_nat hj]; exact hc)
  have HV := Lib.hid (show rdV s = .tuple #[.int .i64 0, .int .i64 0, .int .i64 11] by
    unfold rdV; rw [show rdI s = rdI (s[0] :: s.drop 1) from congrArg rdI (cons_at s h0), rdI_head s[0] _ true j hj hh, if_pos (by simp; omega)]; rfl)
  have hci : ((s[0].toNat : Nat) : Int) = 127 - (j : Int) := by omega
  have hd : decide (127 - (j : Int) < 119) = false := by simp; omega
  have hd2 : decide ((136 : Int) < 127 - (j : Int)) = false := by simp; omega
  have hd3 : decide (127 - (j : Int) < 128) = true := by simp; omega
  clear hh hc
  unfold Gives
  go_enter Tryd.func26, Tryd.ntmps26
  go_wp2
  go_ret3
  rw [HV.out]
  exact ⟨rfl, Below.refl _ _⟩

set_option maxRecDepth 100000 in
set_option maxHeartbeats 1000000 in
theorem refReadInt_full_neg (s : List UInt8) (j : Nat) (w : World) (hs : s.length ≤ 140737488355328) (h0 : 0 < s.length) (hj : j ≤ 8) (hc : s[0].toNat = 127 - j) (ht : 1 + j ≤ s.length) : Gives Tryd.prog 26 #[sV s] w (rdV s) := by
  have hl : ((s.length : Int) == 0) = false := by rw [beq_eq_false_iff_ne]; omega
  have hh : s[0] = if true then headN j else headP j := UInt8.toNat_inj.1 (by rw [if_pos rfl, headN_nat hj]; exact hc)
  have HR := Lib.hid (show rdI s = rdB true (dg true ((s.drop 1).take j)) by rw [show rdI s = rdI (s[0] :: s.drop 1) from congrArg rdI (cons_at s h0), rdI_head s[0] _ true j hj hh, if_neg (by simp; omega)])
  have HB := Lib.hid (show ∀ a (h : a < j) (h2 : a < (dg true ((s.drop 1).take j)).length) (h3 : a + 1 < s.length), ((dg true ((s.drop 1).take j))[a].toNat : Int) = 255 - (s[a + 1].toNat : Int) by
    intro a h h2 h3
    simp only [dg, if_true, List.getElem_map, List.getElem_take, List.getElem_drop, Nat.add_comm 1 a]; exact sub255 _)
  have hdl : (dg true ((s.drop 1).take j)).length = j := by rw [dg_len, List.length_take, List.length_drop]; omega
  generalize dg true ((s.drop 1).take j) = d at *
  have hci : ((s[0].toNat : Nat) : Int) = 127 - (j : Int) := by omega
  have hd : decide (127 - (j : Int) < 119) = false := by simp; omega
  have hd2 : decide ((136 : Int) < 127 - (j : Int)) = false := by simp; omega
  have hd3 : decide (127 - (j : Int) < 128) = true := by simp; omega
  clear hh hc
  unfold Gives
  go_enter Tryd.func26, Tryd.ntmps26
  go_wp2
  rw [show (127 - (127 - (j : Int)) : Int) = (j : Int) from by omega]
  go_loop [8, 9] (fun n i => ∃ (a : Nat), i = .int .i64 ((a : Int) + 1) ∧ a ≤ j ∧ n = .int .i64 (val (d.take a) : Int) ∧ val (d.take a) ≤ 4611686018427387904 ∧ (0 < a → lead d = false)) (fun _ i => j + 1 - (intOf i).toNat)
  case atStart => exact ⟨0, rfl, by omega, by rw [List.take_zero]; rfl, by rw [List.take_zero, val_nil]; omega, by omega⟩
  case round =>
    obtain ⟨a, rfl, ha, rfl, hv, hl0⟩ := hrel
    have HL := Lib.hid hl0
    clear hl0
    by_cases hlt : a < j
    · have h1s : a + 1 < s.length := by omega
      have had : a < d.length := by omega
      have hby := HB.out a hlt had h1s
      have HN := Lib.hid (val_take_succ d a had)
      have HM := Lib.hid (val_take_le d (a + 1))
      have hdb := d[a].toNat_lt
      have HZ := Lib.hid (show a = 0 → (lead d = (d[a] == 0)) by intro e; subst e; exact lead_zero d had)
      have HU := Lib.hid (show d[a] = 0 ↔ d[a].toNat = 0 from ⟨fun e => by rw [e]; rfl, fun e => UInt8.toNat_inj.1 (by simpa using e)⟩)
      generalize hbb : d[a].toNat = b at *
      have hbs : ((s[a + 1].toNat : Nat) : Int) = 255 - (b : Int) := by omega
      clear hbb hby
      have hb2 : (255 : Int) - (255 - (b : Int)) = (b : Int) := by omega
      generalize hM : val (d.take a) = m at *
      clear hM
      by_cases hz : a = 0 ∧ b = 0
      · have HV := Lib.hid (show rdV s = .tuple #[.int .i64 0, .int .i64 0, .int .i64 12] by
          unfold rdV; rw [HR.out, rdB, if_pos (by left; rw [HZ.out hz.1, beq_iff_eq]; exact HU.out.2 hz.2)]; rfl)
        have z1 : ((a : Int) + 1 == 1) = true := by rw [beq_iff_eq]; omega
        have z2 : ((b : Int) == 0) = true := by rw [beq_iff_eq]; omega
        clear hz
        go_wp2
        go_ret3
        rw [HV.out]
        exact ⟨rfl, Below.refl _ _⟩
      · have HLd := Lib.hid (show lead d = false by
          by_cases e : a = 0
          · rw [HZ.out e, beq_eq_false_iff_ne]; intro e2; exact hz ⟨e, HU.out.1 e2⟩
          · exact HL.out (by omega))
        have hcase : (((a : Int) + 1 == 1) = true ∧ ((b : Int) == 0) = false) ∨ ((a : Int) + 1 == 1) = false := by
          by_cases e : a = 0
          · left; exact ⟨by rw [beq_iff_eq]; omega, by rw [beq_eq_false_iff_ne]; omega⟩
          · right; rw [beq_eq_false_iff_ne]; omega
        clear hz
        by_cases hbig : 18014398509481984 < m
        · have HV := Lib.hid (show rdV s = .tuple #[.int .i64 0, .int .i64 0, .int .i64 12] by
            unfold rdV; rw [HR.out, rdB, if_pos (by right; left; have := HN.out; have := HM.out; omega)]; rfl)
          have hd4 : decide ((18014398509481984 : Int) < (m : Int)) = true := by simp; omega
          rcases hcase with ⟨z1, z2⟩ | z1
          all_goals
            go_wp2
            go_ret3
            rw [HV.out]
            exact ⟨rfl, Below.refl _ _⟩
        · have hd4 : decide ((18014398509481984 : Int) < (m : Int)) = false := by simp; omega
          by_cases hbig2 : 4611686018427387904 < m * 256 + b
          · have HV := Lib.hid (show rdV s = .tuple #[.int .i64 0, .int .i64 0, .int .i64 12] by
              unfold rdV; rw [HR.out, rdB, if_pos (by right; left; have := HN.out; have := HM.out; omega)]; rfl)
            have hd5 : decide ((4611686018427387904 : Int) < (m : Int) * 256 + (b : Int)) = true := by simp; omega
            rcases hcase with ⟨z1, z2⟩ | z1
            all_goals
              go_wp2
              go_ret3
              rw [HV.out]
              exact ⟨rfl, Below.refl _ _⟩
          · have hd5 : decide ((4611686018427387904 : Int) < (m : Int) * 256 + (b : Int)) = false := by simp; omega
            have hd6 : decide ((m : Int) * 256 + (b : Int) < 0) = false := by simp; omega
            rcases hcase with ⟨z1, z2⟩ | z1
            all_goals
              go_wp2
              go_round
              case rel => exact ⟨a + 1, by go_num, by omega, by rw [HN.out]; exact int_eq (by omega), by rw [HN.out]; omega, fun _ => HLd.out⟩
              case measure => simp [intOf]; omega
    · obtain rfl : a = j := by omega
      have hfull : d.take a = d := List.take_of_length_le (by omega)
      rw [hfull] at hv ⊢
      have HF := Lib.hid hfull
      have HLd := Lib.hid (show lead d = false by
        by_cases e : a = 0
        · have : d = [] := List.eq_nil_of_length_eq_zero (by omega)
          rw [this]; rfl
        · exact HL.out (by omega))
      clear hfull
      by_cases hm : val d = 4611686018427387904
      · have HV := Lib.hid (show rdV s = .tuple #[.int .i64 0, .int .i64 0, .int .i64 12] by
          unfold rdV; rw [HR.out, rdB, if_pos (by right; right; exact ⟨rfl, by omega⟩)]; rfl)
        have hq : (((val d : Nat) : Int) == 4611686018427387904) = true := by rw [beq_iff_eq]; omega
        clear hm
        generalize val d = m at *
        go_wp2
        go_ret3
        rw [HV.out]
        exact ⟨rfl, Below.refl _ _⟩
      · have HV := Lib.hid (show rdV s = .tuple #[.int .i64 (-(val d : Int) - 1), .int .i64 (1 + (a : Int)), .int .i64 0] by
          unfold rdV; rw [HR.out, rdB, if_neg (by simp [HLd.out]; omega), hdl]; simp)
        have hq : (((val d : Nat) : Int) == 4611686018427387904) = false := by rw [beq_eq_false_iff_ne]; omega
        clear hm
        generalize val d = m at *
        go_wp2
        go_ret3
        rw [HV.out]
        exact ⟨rfl, Below.refl _ _⟩

theorem refReadInt_any (s : List UInt8) (w : World) (hs : s.length ≤ 140737488355328) : Gives Tryd.prog 26 #[sV s] w (rdV s) := by
  by_cases h0 : s = []
  · subst h0; exact refReadInt_nil w
  · have h0 : 0 < s.length := List.length_pos_iff.2 h0
    by_cases hc : s[0].toNat < 119 ∨ 136 < s[0].toNat
    · exact refReadInt_bad s w hs h0 hc
    · rcases head_cases _ hc with ⟨j, hj, hc2⟩ | ⟨j, hj, hc2⟩
      · by_cases ht : s.length < 1 + j
        · exact refReadInt_short_pos s j w hs h0 hj hc2 ht
        · exact refReadInt_full_pos s j w hs h0 hj hc2 (by omega)
      · by_cases ht : s.length < 1 + j
        · exact refReadInt_short_neg s j w hs h0 hj hc2 ht
        · exact refReadInt_full_neg s j w hs h0 hj hc2 (by omega)

end Go.Proofs.YtpdmcikegcknlaaDoor
