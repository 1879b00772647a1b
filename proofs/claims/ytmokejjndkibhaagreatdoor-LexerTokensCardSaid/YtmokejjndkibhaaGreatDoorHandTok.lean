/- The statement LexerTokensCardSaid: for every input the law returns true, and the arguments read as before; the tables of the library that it lists are tied to the text. The frame round the walk of the law. (With it: The lexer's Position.; The reference's small functions. Printed by mk_lxra.py.; The reference's one. Printed by mk_lxrb.py.; A drawn region, head and tail, with an invariant on what has come up and the world. Printed by mk_rtj.py.; Appending a token to a row of one's own, as a run.; The reference's Tokens. Printed by mk_lxrd.py.; LexerTokens: Tokens, Keyword and Position are those of the reference.) -/
import Derived.Deep.DeepAppendWide
import Derived.Stop.LaidErr
import Derived.Test.YtmokejjndkibhaaGreatDoorCards
import Derived.Test.YtmokejjndkibhaaGreatDoorTie
import Derived.WalkKit
import Derived.ProofKit
import Derived.OpenShut
import Derived.ShutString
import Derived.ChangeOld
import Derived.Below
import Derived.Deep.DeepHandedRow
import Derived.Lib.LaidTab
import Derived.Shelf.Vars
import Derived.Test.YtmokejjndkibhaaGreatDoorPart12
import Derived.Test.YtmokejjndkibhaaGreatDoorPart7
import Derived.Test.YtmokejjndkibhaaGreatDoorPart10
import Derived.Test.YtmokejjndkibhaaGreatDoorPart4
import Derived.Test.YtmokejjndkibhaaGreatDoorPart11

namespace Go.Proofs.YtmokejjndkibhaaGreatDoor
open Go.RowKit Go.Shelf Ex
set_option linter.unusedVariables false
set_option linter.unusedSimpArgs false
attribute [local go_sem] sB_extract

theorem posR_in {s : List UInt8} {k : Nat} (h : k ≤ s.length) : posR s (k : Int) = posF (s.take k) := by
  unfold posR
  rw [if_neg (by omega)]
  simp
theorem posR_out {s : List UInt8} {a : Int} (h : a < 0 ∨ (s.length : Int) < a) : posR s a = (0, 0) := by
  unfold posR; rw [if_pos h]
theorem posF_bd (l : List UInt8) : 1 ≤ (posF l).1 ∧ (posF l).1 ≤ l.length + 1 ∧ 1 ≤ (posF l).2 ∧ (posF l).2 ≤ l.length + 1 := by
  refine snoc_ind (P := fun l => 1 ≤ (posF l).1 ∧ (posF l).1 ≤ l.length + 1 ∧ 1 ≤ (posF l).2 ∧ (posF l).2 ≤ l.length + 1) ?_ ?_ l
  · simp [posF]
  · intro l c ih
    rw [posF_snoc, List.length_append]
    simp only [List.length_singleton]
    split
    · dsimp only; omega
    · dsimp only; omega
set_option maxRecDepth 100000 in
set_option maxHeartbeats 4000000 in
theorem Position_any (s : List UInt8) (a : Int) (w : World) (hl : s.length ≤ 1000000) : Gives Tryz.prog 22 #[sV s, .int .i64 a] w (.tuple #[.int .i64 (posR s a).1, .int .i64 (posR s a).2]) := by
  unfold Gives
  have hsz := sB_size s
  by_cases h1 : a < 0
  · rw [posR_out (.inl h1)]
    go_enter Tryz.func22, Tryz.ntmps22
    go_wp2
    go_ret2
    exact ⟨rfl, Below.refl _ w⟩
  · by_cases h2 : (s.length : Int) < a
    · rw [posR_out (.inr h2)]
      go_enter Tryz.func22, Tryz.ntmps22
      go_wp2
      go_ret2
      exact ⟨rfl, Below.refl _ w⟩
    · obtain ⟨k, rfl⟩ : ∃ k : Nat, a = k := ⟨a.toNat, by omega⟩
      have hk : k ≤ s.length := by omega
      rw [posR_in hk]
      have hlen : (s.take k).length = k := by simp; omega
      have hP := posF_eq (s.take k)
      have hB := posF_bd (s.take k)
      rw [hP] at hB
      rw [hlen] at hP hB
      dsimp only at hB
      rw [hP]
      dsimp only
      obtain ⟨hb1, hb2, hb3, hb4⟩ := hB
      have K1 := Lib.hid (fun W => (show Calls Tryz.prog 50 #[sV (s.take k), .string ⟨#[10]⟩] W fun e w' => e = .returned (.int .i64 (Lib.countByte (s.take k) 10)) ∧ w' = W from by
        have := Tryz.strings_Count_one (sB (s.take k)) 10 W
        rw [sB_data] at this
        exact this))
      have K2 := Lib.hid (fun W => (show Calls Tryz.prog 51 #[sV (s.take k), .int .u8 10] W fun e w' => e = .returned (.int .i64 (Lib.lastIndexByte (sB (s.take k)) 10)) ∧ w' = W from
        Tryz.strings_LastIndexByte (sB (s.take k)) 10 (by rw [sB_size]; omega) W))
      clear hP
      generalize Lib.countByte (s.take k) 10 = nc at *
      generalize Lib.lastIndexByte (sB (s.take k)) 10 = nl at *
      go_enter Tryz.func22, Tryz.ntmps22
      go_wp2
      go_quiet (first
        | (go_at_call 50; exact Calls.quiet_of_same ((K1.out _).mono fun e w3 h => ⟨h.1, h.2⟩))
        | (go_at_call 51; exact Calls.quiet_of_same ((K2.out _).mono fun e w3 h => ⟨h.1, h.2⟩)))
      go_wp2
      go_ret2
      exact ⟨rfl, Ext.drewN' (Below.refl _ w)⟩
end Go.Proofs.YtmokejjndkibhaaGreatDoor

namespace Go.Proofs.YtmokejjndkibhaaGreatDoor
open Go.RowKit Go.Shelf Ex
set_option linter.unusedVariables false
set_option linter.unusedSimpArgs false
attribute [local go_sem] sB_extract

theorem rfLetter_any (c : UInt8) (w : World) : Gives Tryz.prog 74 #[.int .u8 (c.toNat : Int)] w (.bool (letB c)) := by
  unfold Gives letB
  by_cases h : 97 ≤ c.toNat
  · have g : (97 : Int) ≤ (c.toNat : Int) := by omega
    by_cases h2 : c.toNat ≤ 122
    · have g2 : (c.toNat : Int) ≤ 122 := by omega
      rw [decide_eq_true (And.intro h h2)]
      clear h h2
      go_enter Tryz.func74, Tryz.ntmps74
      go_wp2
      all_goals (first | omega | (go_ret; exact ⟨by first | rfl | (simp; omega), Below.refl _ _⟩))
    · have g2 : ¬ (c.toNat : Int) ≤ 122 := by omega
      rw [decide_eq_false (fun e => h2 e.2)]
      clear h h2
      go_enter Tryz.func74, Tryz.ntmps74
      go_wp2
      all_goals (first | omega | (go_ret; exact ⟨by first | rfl | (simp; omega), Below.refl _ _⟩))
  · have g : ¬ (97 : Int) ≤ (c.toNat : Int) := by omega
    rw [decide_eq_false (fun e => h e.1)]
    clear h
    go_enter Tryz.func74, Tryz.ntmps74
    go_wp2
    all_goals (first | omega | (go_ret; exact ⟨by first | rfl | (simp; omega), Below.refl _ _⟩))
theorem rfDigit_any (c : UInt8) (w : World) : Gives Tryz.prog 76 #[.int .u8 (c.toNat : Int)] w (.bool (digB c)) := by
  unfold Gives digB
  by_cases h : 48 ≤ c.toNat
  · have g : (48 : Int) ≤ (c.toNat : Int) := by omega
    by_cases h2 : c.toNat ≤ 57
    · have g2 : (c.toNat : Int) ≤ 57 := by omega
      rw [decide_eq_true (And.intro h h2)]
      clear h h2
      go_enter Tryz.func76, Tryz.ntmps76
      go_wp2
      all_goals (first | omega | (go_ret; exact ⟨by first | rfl | (simp; omega), Below.refl _ _⟩))
    · have g2 : ¬ (c.toNat : Int) ≤ 57 := by omega
      rw [decide_eq_false (fun e => h2 e.2)]
      clear h h2
      go_enter Tryz.func76, Tryz.ntmps76
      go_wp2
      all_goals (first | omega | (go_ret; exact ⟨by first | rfl | (simp; omega), Below.refl _ _⟩))
  · have g : ¬ (48 : Int) ≤ (c.toNat : Int) := by omega
    rw [decide_eq_false (fun e => h e.1)]
    clear h
    go_enter Tryz.func76, Tryz.ntmps76
    go_wp2
    all_goals (first | omega | (go_ret; exact ⟨by first | rfl | (simp; omega), Below.refl _ _⟩))
set_option maxRecDepth 100000 in
set_option maxHeartbeats 1000000 in
theorem rfInside_any (c : UInt8) (w : World) : Gives Tryz.prog 75 #[.int .u8 (c.toNat : Int)] w (.bool (insC c)) := by
  unfold Gives
  have KL := Lib.hid (fun W => rfLetter_any c W)
  have KD := Lib.hid (fun W => rfDigit_any c W)
  have HI := Lib.hid (show insC c = (letB c || digB c || decide (c.toNat = 95)) from rfl)
  generalize letB c = a at *
  generalize digB c = b at *
  cases a with
  | true =>
    have HV := Lib.hid (show insC c = true by rw [HI.out]; simp)
    rw [HV.out]
    go_enter Tryz.func75, Tryz.ntmps75
    go_wp2_with fail
    refine (KL.out _).mono ?_
    intro w1 hE
    go_wp2
    go_ret
    exact ⟨rfl, hE⟩
  | false =>
    cases b with
    | true =>
      have HV := Lib.hid (show insC c = true by rw [HI.out]; simp)
      rw [HV.out]
      go_enter Tryz.func75, Tryz.ntmps75
      go_wp2_with fail
      refine (KL.out _).mono ?_
      intro w1 hE
      have HE := Lib.hid (show Ext w w1 from hE)
      clear hE
      go_wp2_with fail
      refine (KD.out _).mono ?_
      intro w2 hE
      have HE2 := Lib.hid (Ext.trans HE.out hE)
      clear hE
      go_wp2
      go_ret
      exact ⟨rfl, HE2.out⟩
    | false =>
      have HV := Lib.hid (show insC c = decide (c.toNat = 95) by rw [HI.out]; simp)
      rw [HV.out]
      by_cases h : c.toNat = 95
      · rw [decide_eq_true h]
        have h2 := Lib.hid (show ((c.toNat : Int) = 95) from by omega)
        clear h HI HV
        go_enter Tryz.func75, Tryz.ntmps75
        go_wp2_with fail
        refine (KL.out _).mono ?_
        intro w1 hE
        have HE := Lib.hid (show Ext w w1 from hE)
        clear hE
        go_wp2_with fail
        refine (KD.out _).mono ?_
        intro w2 hE
        have HE2 := Lib.hid (Ext.trans HE.out hE)
        clear hE
        have h := h2.out
        go_wp2
        go_ret
        exact ⟨by first | rfl | simp [h], HE2.out⟩
      · rw [decide_eq_false h]
        have h2 := Lib.hid (show ¬ ((c.toNat : Int) = 95) from by omega)
        clear h HI HV
        go_enter Tryz.func75, Tryz.ntmps75
        go_wp2_with fail
        refine (KL.out _).mono ?_
        intro w1 hE
        have HE := Lib.hid (show Ext w w1 from hE)
        clear hE
        go_wp2_with fail
        refine (KD.out _).mono ?_
        intro w2 hE
        have HE2 := Lib.hid (Ext.trans HE.out hE)
        clear hE
        have h := h2.out
        go_wp2
        go_ret
        exact ⟨by first | rfl | simp [h], HE2.out⟩
set_option maxRecDepth 100000 in
set_option maxHeartbeats 2000000 in
theorem rfNumber_any (s : List UInt8) (hd : DigsL s) (hs : s.length ≤ 100000) (w : World) : Gives Tryz.prog 77 #[sV s] w (.int .i64 (satV 0 s)) := by
  unfold Gives
  have hsz := sB_size s
  obtain ⟨R, hR⟩ : ∃ R, satV 0 s = R := ⟨_, rfl⟩
  rw [hR]
  have HR := Lib.hid hR
  have HD := Lib.hid (fun k (h : k < s.length) => hd s[k] (List.getElem_mem h))
  clear hR hd
  go_enter Tryz.func77, Tryz.ntmps77
  go_wp2
  go_loopw [3, 4] (fun u i wr => ∃ (j : Nat) (N : Int), j ≤ s.length ∧ i = .int .i64 (j : Int) ∧ u = .int .i64 N ∧ 0 ≤ N ∧ N ≤ 10995116277769 ∧ satV N (s.drop j) = R ∧ wr = w) (fun _ i _ => s.length - (intOf i).toNat)
  case atStart => exact ⟨0, 0, Nat.zero_le _, rfl, rfl, by omega, by omega, HR.out, rfl⟩
  case round =>
    obtain ⟨j, N, hj, rfl, rfl, h0, h1, hN, rfl⟩ := hrel
    by_cases hlt : j < s.length
    · have hd := HD.out j hlt
      rw [List.drop_eq_getElem_cons hlt, satV] at hN
      obtain ⟨c, hc⟩ : ∃ c : Nat, (s[j]).toNat = c := ⟨_, rfl⟩
      rw [hc] at hN hd
      have hu := u8_sub hd.1 hd.2
      obtain ⟨hd1, hd2⟩ := hd
      by_cases hN1 : N ≤ 1099511627776
      · rw [if_pos hN1] at hN
        have HN := Lib.hid hN
        clear hN
        go_wp2
        go_roundw
        case rel => exact ⟨j + 1, N * 10 + ((c : Int) - 48), by omega, by go_num, by first | rfl | (congr 1; omega) | go_num, by omega, by omega, HN.out, by first | rfl | trivial⟩
        case measure => simp [intOf]; omega
      · rw [if_neg hN1] at hN
        clear hd1 hd2 hu
        subst hN
        go_wp2
        go_ret
        exact ⟨rfl, Below.refl _ _⟩
    · obtain rfl : j = s.length := by omega
      rw [List.drop_eq_nil_of_le (Nat.le_refl _), satV] at hN
      subst hN
      go_wp2
      go_ret
      exact ⟨rfl, Below.refl _ _⟩
theorem pre_iff (x l : List UInt8) : x.isPrefixOf l = true ↔ x.length ≤ l.length ∧ l.take x.length = x := by
  rw [List.isPrefixOf_iff_prefix]
  constructor
  · intro h
    exact ⟨h.length_le, (List.prefix_iff_eq_take.1 h).symm⟩
  · rintro ⟨_, h⟩
    rw [← h]; exact List.take_prefix _ _
theorem sgR_len : sgR.length = 21 := rfl
theorem kwL_len : kwL.length = 69 := rfl
set_option maxRecDepth 100000 in
set_option maxHeartbeats 4000000 in
theorem rfSign_any (l : List UInt8) (hl : l.length ≤ 100000) (w : World) : Gives Tryz.prog 78 #[sV l] w (.int .i64 (sgLen l : Nat)) := by
  unfold Gives
  have hsz := sB_size l
  have HH := Lib.hid (fun j (hj : j < sgR.length) => sgR_hit (l := l) (x := []) hj)
  have HNN := Lib.hid (fun h => sgR_none (l := l) h)
  generalize sgLen l = R at *
  go_enter Tryz.func78, Tryz.ntmps78
  go_upto_region 2 with fail
  obtain ⟨w1, hw1⟩ : ∃ W, w.alloc (.cells #[.string { data := #[38, 38] }, .string { data := #[124, 124] }, .string { data := #[61, 61] }, .string { data := #[33, 61] }, .string { data := #[60, 61] }, .string { data := #[62, 61] }, .string { data := #[60] }, .string { data := #[62] }, .string { data := #[43] }, .string { data := #[45] }, .string { data := #[42] }, .string { data := #[47] }, .string { data := #[37] }, .string { data := #[33] }, .string { data := #[61] }, .string { data := #[40] }, .string { data := #[41] }, .string { data := #[123] }, .string { data := #[125] }, .string { data := #[44] }, .string { data := #[59] }] 9) = W := ⟨_, rfl⟩
  rw [hw1]
  have hk := alloc_here w (.cells #[.string { data := #[38, 38] }, .string { data := #[124, 124] }, .string { data := #[61, 61] }, .string { data := #[33, 61] }, .string { data := #[60, 61] }, .string { data := #[62, 61] }, .string { data := #[60] }, .string { data := #[62] }, .string { data := #[43] }, .string { data := #[45] }, .string { data := #[42] }, .string { data := #[47] }, .string { data := #[37] }, .string { data := #[33] }, .string { data := #[61] }, .string { data := #[40] }, .string { data := #[41] }, .string { data := #[123] }, .string { data := #[125] }, .string { data := #[44] }, .string { data := #[59] }] 9)
  rw [hw1] at hk
  have HK := Lib.hid (fun (j : Nat) (h : j < sgR.length) => (show w1.cell? ⟨w.heap.size, j, none⟩ = some (sV sgR[j]) from cell_of hk (by
    have e : (#[.string { data := #[38, 38] }, .string { data := #[124, 124] }, .string { data := #[61, 61] }, .string { data := #[33, 61] }, .string { data := #[60, 61] }, .string { data := #[62, 61] }, .string { data := #[60] }, .string { data := #[62] }, .string { data := #[43] }, .string { data := #[45] }, .string { data := #[42] }, .string { data := #[47] }, .string { data := #[37] }, .string { data := #[33] }, .string { data := #[61] }, .string { data := #[40] }, .string { data := #[41] }, .string { data := #[123] }, .string { data := #[125] }, .string { data := #[44] }, .string { data := #[59] }] : Array Value) = (sgR.map sV).toArray := rfl
    rw [e, List.getElem?_toArray, List.getElem?_map, List.getElem?_eq_getElem h]; rfl)))
  have HE1 := Lib.hid (show Ext w w1 from by rw [← hw1]; exact ext_alloc _ _)
  clear hw1 hk
  generalize w.heap.size = B at *
  go_wp2
  go_loopw [4] (fun i wr => ∃ j : Nat, j ≤ 21 ∧ i = .int .i64 (j : Int) ∧ (∀ y ∈ sgR.take j, y.isPrefixOf l = false) ∧ Ext w1 wr) (fun i _ => 21 - (intOf i).toNat)
  case atStart => exact ⟨0, Nat.zero_le _, rfl, (fun y h => by simp at h), Below.refl _ _⟩
  case round =>
    obtain ⟨j, hj, rfl, hno, hE⟩ := hrel
    have HE := Lib.hid hE
    have HNO := Lib.hid hno
    by_cases hlt : j < 21
    · have HJ := Lib.hid (show j < sgR.length from hlt)
      have z0 := Ext.cellE (HK.out j HJ.out) hE
      have hh := HH.out j HJ.out
      have hxm : (sgR[j]'HJ.out).length ≤ 2 ∧ 1 ≤ (sgR[j]'HJ.out).length := (by decide : ∀ x ∈ sgR, x.length ≤ 2 ∧ 1 ≤ x.length) _ (List.getElem_mem _)
      have hsucc : sgR.take (j + 1) = sgR.take j ++ [sgR[j]'HJ.out] := List.take_succ_eq_append_getElem HJ.out
      have hpi := pre_iff (sgR[j]'HJ.out) l
      generalize sgR[j]'HJ.out = x at *
      have hxz := sB_size x
      clear hE hno
      by_cases hp : x.isPrefixOf l = true
      · obtain ⟨hp1, hp2⟩ := hpi.1 hp
        have HRR := Lib.hid (hh hp HNO.out)
        have heq : (l.take x.length == x) = true := by rw [hp2]; exact beq_self_eq_true x
        have hp3 : (x.length : Int) ≤ (l.length : Int) := by omega
        clear hh hp hpi hp2 hsucc
        go_wp2
        go_quiet (fail)
        go_wp2
        go_ret
        exact ⟨by rw [HRR.out]; rfl, Ext.trans HE1.out (Ext.drewN' HE.out)⟩
      · have hpf : x.isPrefixOf l = false := by
          cases hb : x.isPrefixOf l with
          | false => rfl
          | true => exact absurd hb hp
        have HN2 := Lib.hid (show ∀ y ∈ sgR.take (j + 1), y.isPrefixOf l = false from fun y hy => by
          rw [hsucc] at hy
          rcases List.mem_append.1 hy with h | h
          · exact HNO.out y h
          · obtain rfl := List.mem_singleton.1 h
            exact hpf)
        by_cases hp3 : x.length ≤ l.length
        · have heq : (l.take x.length == x) = false := by
            cases hb : (l.take x.length == x) with
            | false => rfl
            | true => exact absurd (hpi.2 ⟨hp3, eq_of_beq hb⟩) hp
          have hp4 : (x.length : Int) ≤ (l.length : Int) := by omega
          clear hh hp hpi hsucc hpf
          go_wp2
          go_quiet (fail)
          go_wp2
          go_roundw
          case rel => exact ⟨j + 1, by omega, by go_num, HN2.out, Ext.drewN' HE.out⟩
          case measure => simp [intOf]; omega
        · have hp4 : ¬ (x.length : Int) ≤ (l.length : Int) := by omega
          clear hh hp hpi hsucc hpf
          go_wp2
          go_quiet (fail)
          go_wp2
          go_roundw
          case rel => exact ⟨j + 1, by omega, by go_num, HN2.out, Ext.drewN' HE.out⟩
          case measure => simp [intOf]; omega
    · obtain rfl : j = 21 := by omega
      have HRR := Lib.hid (show R = 0 from HNN.out (fun y hy => HNO.out y (by rw [List.take_of_length_le (by rw [sgR_len]; exact Nat.le_refl _)]; exact hy)))
      clear hE hno
      go_wp2
      go_ret
      exact ⟨by rw [HRR.out]; rfl, Ext.trans HE1.out HE.out⟩
set_option maxRecDepth 100000 in
set_option maxHeartbeats 8000000 in
theorem rfKeyword_any (s : List UInt8) (w : World) : Gives Tryz.prog 26 #[sV s] w (.bool (kwB s)) := by
  unfold Gives
  have HH := Lib.hid (fun (h : s ∈ kwL) => (show kwB s = true from List.contains_iff_mem.2 h))
  have HNN := Lib.hid (fun (h : ¬ s ∈ kwL) => (show kwB s = false from by cases hb : kwB s with
    | false => rfl
    | true => exact absurd (List.contains_iff_mem.1 hb) h))
  generalize kwB s = R at *
  go_enter Tryz.func26, Tryz.ntmps26
  go_upto_region 2 with fail
  obtain ⟨w1, hw1⟩ : ∃ W, w.alloc (.cells #[.string { data := #[97, 99, 113, 117, 105, 114, 101] }, .string { data := #[97, 100, 100] }, .string { data := #[97, 110, 121] }, .string { data := #[97, 114, 114, 105, 118, 101] }, .string { data := #[97, 115] }, .string { data := #[97, 115, 115, 101, 114, 116] }, .string { data := #[97, 116, 111, 109, 105, 99] }, .string { data := #[97, 119, 97, 105, 116] }, .string { data := #[98, 97, 114, 114, 105, 101, 114] }, .string { data := #[98, 101, 103, 105, 110] }, .string { data := #[98, 114, 111, 97, 100, 99, 97, 115, 116] }, .string { data := #[98, 117, 100, 103, 101, 116] }, .string { data := #[99, 97, 108, 108] }, .string { data := #[99, 97, 110, 99, 101, 108] }, .string { data := #[99, 104, 97, 110, 110, 101, 108] }, .string { data := #[99, 104, 101, 99, 107, 112, 111, 105, 110, 116] }, .string { data := #[99, 108, 101, 97, 110, 117, 112] }, .string { data := #[99, 108, 111, 115, 101] }, .string { data := #[99, 111, 109, 112, 108, 101, 116, 101] }, .string { data := #[99, 111, 110, 100] }, .string { data := #[100, 101, 97, 100, 108, 105, 110, 101] }, .string { data := #[100, 101, 102, 97, 117, 108, 116] }, .string { data := #[100, 101, 102, 101, 114] }, .string { data := #[101, 108, 115, 101] }, .string { data := #[101, 109, 105, 116] }, .string { data := #[101, 110, 100] }, .string { data := #[101, 118, 101, 114, 121] }, .string { data := #[102, 97, 105, 108] }, .string { data := #[102, 117, 110, 99] }, .string { data := #[102, 117, 116, 117, 114, 101] }, .string { data := #[105, 102] }, .string { data := #[108, 101, 116] }, .string { data := #[108, 105, 109, 105, 116, 101, 114] }, .string { data := #[108, 111, 99, 107] }, .string { data := #[109, 97, 115, 107] }, .string { data := #[109, 117, 116, 101, 120] }, .string { data := #[110, 101, 120, 116] }, .string { data := #[111, 110] }, .string { data := #[112, 114, 105, 111, 114, 105, 116, 121] }, .string { data := #[112, 117, 98, 108, 105, 115, 104] }, .string { data := #[114, 101, 97, 100, 108, 111, 99, 107] }, .string { data := #[114, 101, 97, 100, 117, 110, 108, 111, 99, 107] }, .string { data := #[114, 101, 99, 101, 105, 118, 101] }, .string { data := #[114, 101, 108, 101, 97, 115, 101] }, .string { data := #[114, 101, 112, 101, 97, 116] }, .string { data := #[114, 101, 116, 117, 114, 110] }, .string { data := #[114, 119, 108, 111, 99, 107] }, .string { data := #[115, 99, 111, 112, 101] }, .string { data := #[115, 101, 108, 101, 99, 116] }, .string { data := #[115, 101, 109, 97, 112, 104, 111, 114, 101] }, .string { data := #[115, 101, 110, 100] }, .string { data := #[115, 105, 103, 110, 97, 108] }, .string { data := #[115, 108, 101, 101, 112] }, .string { data := #[115, 112, 97, 119, 110] }, .string { data := #[115, 117, 98, 115, 99, 114, 105, 98, 101] }, .string { data := #[115, 119, 97, 112] }, .string { data := #[116, 97, 107, 101] }, .string { data := #[116, 97, 115, 107] }, .string { data := #[116, 111, 112, 105, 99] }, .string { data := #[116, 114, 121, 97, 99, 113, 117, 105, 114, 101] }, .string { data := #[116, 114, 121, 108, 111, 99, 107] }, .string { data := #[117, 110, 108, 111, 99, 107] }, .string { data := #[117, 110, 115, 117, 98, 115, 99, 114, 105, 98, 101] }, .string { data := #[118, 97, 114] }, .string { data := #[119, 97, 105, 116] }, .string { data := #[119, 104, 105, 108, 101] }, .string { data := #[119, 114, 105, 116, 101, 108, 111, 99, 107] }, .string { data := #[119, 114, 105, 116, 101, 117, 110, 108, 111, 99, 107] }, .string { data := #[121, 105, 101, 108, 100] }] 9) = W := ⟨_, rfl⟩
  rw [hw1]
  have hk := alloc_here w (.cells #[.string { data := #[97, 99, 113, 117, 105, 114, 101] }, .string { data := #[97, 100, 100] }, .string { data := #[97, 110, 121] }, .string { data := #[97, 114, 114, 105, 118, 101] }, .string { data := #[97, 115] }, .string { data := #[97, 115, 115, 101, 114, 116] }, .string { data := #[97, 116, 111, 109, 105, 99] }, .string { data := #[97, 119, 97, 105, 116] }, .string { data := #[98, 97, 114, 114, 105, 101, 114] }, .string { data := #[98, 101, 103, 105, 110] }, .string { data := #[98, 114, 111, 97, 100, 99, 97, 115, 116] }, .string { data := #[98, 117, 100, 103, 101, 116] }, .string { data := #[99, 97, 108, 108] }, .string { data := #[99, 97, 110, 99, 101, 108] }, .string { data := #[99, 104, 97, 110, 110, 101, 108] }, .string { data := #[99, 104, 101, 99, 107, 112, 111, 105, 110, 116] }, .string { data := #[99, 108, 101, 97, 110, 117, 112] }, .string { data := #[99, 108, 111, 115, 101] }, .string { data := #[99, 111, 109, 112, 108, 101, 116, 101] }, .string { data := #[99, 111, 110, 100] }, .string { data := #[100, 101, 97, 100, 108, 105, 110, 101] }, .string { data := #[100, 101, 102, 97, 117, 108, 116] }, .string { data := #[100, 101, 102, 101, 114] }, .string { data := #[101, 108, 115, 101] }, .string { data := #[101, 109, 105, 116] }, .string { data := #[101, 110, 100] }, .string { data := #[101, 118, 101, 114, 121] }, .string { data := #[102, 97, 105, 108] }, .string { data := #[102, 117, 110, 99] }, .string { data := #[102, 117, 116, 117, 114, 101] }, .string { data := #[105, 102] }, .string { data := #[108, 101, 116] }, .string { data := #[108, 105, 109, 105, 116, 101, 114] }, .string { data := #[108, 111, 99, 107] }, .string { data := #[109, 97, 115, 107] }, .string { data := #[109, 117, 116, 101, 120] }, .string { data := #[110, 101, 120, 116] }, .string { data := #[111, 110] }, .string { data := #[112, 114, 105, 111, 114, 105, 116, 121] }, .string { data := #[112, 117, 98, 108, 105, 115, 104] }, .string { data := #[114, 101, 97, 100, 108, 111, 99, 107] }, .string { data := #[114, 101, 97, 100, 117, 110, 108, 111, 99, 107] }, .string { data := #[114, 101, 99, 101, 105, 118, 101] }, .string { data := #[114, 101, 108, 101, 97, 115, 101] }, .string { data := #[114, 101, 112, 101, 97, 116] }, .string { data := #[114, 101, 116, 117, 114, 110] }, .string { data := #[114, 119, 108, 111, 99, 107] }, .string { data := #[115, 99, 111, 112, 101] }, .string { data := #[115, 101, 108, 101, 99, 116] }, .string { data := #[115, 101, 109, 97, 112, 104, 111, 114, 101] }, .string { data := #[115, 101, 110, 100] }, .string { data := #[115, 105, 103, 110, 97, 108] }, .string { data := #[115, 108, 101, 101, 112] }, .string { data := #[115, 112, 97, 119, 110] }, .string { data := #[115, 117, 98, 115, 99, 114, 105, 98, 101] }, .string { data := #[115, 119, 97, 112] }, .string { data := #[116, 97, 107, 101] }, .string { data := #[116, 97, 115, 107] }, .string { data := #[116, 111, 112, 105, 99] }, .string { data := #[116, 114, 121, 97, 99, 113, 117, 105, 114, 101] }, .string { data := #[116, 114, 121, 108, 111, 99, 107] }, .string { data := #[117, 110, 108, 111, 99, 107] }, .string { data := #[117, 110, 115, 117, 98, 115, 99, 114, 105, 98, 101] }, .string { data := #[118, 97, 114] }, .string { data := #[119, 97, 105, 116] }, .string { data := #[119, 104, 105, 108, 101] }, .string { data := #[119, 114, 105, 116, 101, 108, 111, 99, 107] }, .string { data := #[119, 114, 105, 116, 101, 117, 110, 108, 111, 99, 107] }, .string { data := #[121, 105, 101, 108, 100] }] 9)
  rw [hw1] at hk
  have HK := Lib.hid (fun (j : Nat) (h : j < kwL.length) => (show w1.cell? ⟨w.heap.size, j, none⟩ = some (sV kwL[j]) from cell_of hk (by
    have e : (#[.string { data := #[97, 99, 113, 117, 105, 114, 101] }, .string { data := #[97, 100, 100] }, .string { data := #[97, 110, 121] }, .string { data := #[97, 114, 114, 105, 118, 101] }, .string { data := #[97, 115] }, .string { data := #[97, 115, 115, 101, 114, 116] }, .string { data := #[97, 116, 111, 109, 105, 99] }, .string { data := #[97, 119, 97, 105, 116] }, .string { data := #[98, 97, 114, 114, 105, 101, 114] }, .string { data := #[98, 101, 103, 105, 110] }, .string { data := #[98, 114, 111, 97, 100, 99, 97, 115, 116] }, .string { data := #[98, 117, 100, 103, 101, 116] }, .string { data := #[99, 97, 108, 108] }, .string { data := #[99, 97, 110, 99, 101, 108] }, .string { data := #[99, 104, 97, 110, 110, 101, 108] }, .string { data := #[99, 104, 101, 99, 107, 112, 111, 105, 110, 116] }, .string { data := #[99, 108, 101, 97, 110, 117, 112] }, .string { data := #[99, 108, 111, 115, 101] }, .string { data := #[99, 111, 109, 112, 108, 101, 116, 101] }, .string { data := #[99, 111, 110, 100] }, .string { data := #[100, 101, 97, 100, 108, 105, 110, 101] }, .string { data := #[100, 101, 102, 97, 117, 108, 116] }, .string { data := #[100, 101, 102, 101, 114] }, .string { data := #[101, 108, 115, 101] }, .string { data := #[101, 109, 105, 116] }, .string { data := #[101, 110, 100] }, .string { data := #[101, 118, 101, 114, 121] }, .string { data := #[102, 97, 105, 108] }, .string { data := #[102, 117, 110, 99] }, .string { data := #[102, 117, 116, 117, 114, 101] }, .string { data := #[105, 102] }, .string { data := #[108, 101, 116] }, .string { data := #[108, 105, 109, 105, 116, 101, 114] }, .string { data := #[108, 111, 99, 107] }, .string { data := #[109, 97, 115, 107] }, .string { data := #[109, 117, 116, 101, 120] }, .string { data := #[110, 101, 120, 116] }, .string { data := #[111, 110] }, .string { data := #[112, 114, 105, 111, 114, 105, 116, 121] }, .string { data := #[112, 117, 98, 108, 105, 115, 104] }, .string { data := #[114, 101, 97, 100, 108, 111, 99, 107] }, .string { data := #[114, 101, 97, 100, 117, 110, 108, 111, 99, 107] }, .string { data := #[114, 101, 99, 101, 105, 118, 101] }, .string { data := #[114, 101, 108, 101, 97, 115, 101] }, .string { data := #[114, 101, 112, 101, 97, 116] }, .string { data := #[114, 101, 116, 117, 114, 110] }, .string { data := #[114, 119, 108, 111, 99, 107] }, .string { data := #[115, 99, 111, 112, 101] }, .string { data := #[115, 101, 108, 101, 99, 116] }, .string { data := #[115, 101, 109, 97, 112, 104, 111, 114, 101] }, .string { data := #[115, 101, 110, 100] }, .string { data := #[115, 105, 103, 110, 97, 108] }, .string { data := #[115, 108, 101, 101, 112] }, .string { data := #[115, 112, 97, 119, 110] }, .string { data := #[115, 117, 98, 115, 99, 114, 105, 98, 101] }, .string { data := #[115, 119, 97, 112] }, .string { data := #[116, 97, 107, 101] }, .string { data := #[116, 97, 115, 107] }, .string { data := #[116, 111, 112, 105, 99] }, .string { data := #[116, 114, 121, 97, 99, 113, 117, 105, 114, 101] }, .string { data := #[116, 114, 121, 108, 111, 99, 107] }, .string { data := #[117, 110, 108, 111, 99, 107] }, .string { data := #[117, 110, 115, 117, 98, 115, 99, 114, 105, 98, 101] }, .string { data := #[118, 97, 114] }, .string { data := #[119, 97, 105, 116] }, .string { data := #[119, 104, 105, 108, 101] }, .string { data := #[119, 114, 105, 116, 101, 108, 111, 99, 107] }, .string { data := #[119, 114, 105, 116, 101, 117, 110, 108, 111, 99, 107] }, .string { data := #[121, 105, 101, 108, 100] }] : Array Value) = (kwL.map sV).toArray := rfl
    rw [e, List.getElem?_toArray, List.getElem?_map, List.getElem?_eq_getElem h]; rfl)))
  have HE1 := Lib.hid (show Ext w w1 from by rw [← hw1]; exact ext_alloc _ _)
  clear hw1 hk
  generalize w.heap.size = B at *
  go_wp2
  go_loopw [4] (fun i wr => ∃ j : Nat, j ≤ 69 ∧ i = .int .i64 (j : Int) ∧ ¬ s ∈ kwL.take j ∧ Ext w1 wr) (fun i _ => 69 - (intOf i).toNat)
  case atStart => exact ⟨0, Nat.zero_le _, rfl, (fun h => by cases h), Below.refl _ _⟩
  case round =>
    obtain ⟨j, hj, rfl, hno, hE⟩ := hrel
    have HE := Lib.hid hE
    have HNO := Lib.hid hno
    by_cases hlt : j < 69
    · have HJ := Lib.hid (show j < kwL.length from hlt)
      have z0 := Ext.cellE (HK.out j HJ.out) hE
      have hm : kwL[j]'HJ.out ∈ kwL := List.getElem_mem _
      have hsucc : kwL.take (j + 1) = kwL.take j ++ [kwL[j]'HJ.out] := List.take_succ_eq_append_getElem HJ.out
      generalize kwL[j]'HJ.out = x at *
      clear hE hno
      by_cases hp : x = s
      · subst hp
        have HRR := Lib.hid (HH.out hm)
        have heq : (x == x) = true := beq_self_eq_true x
        clear hm hsucc
        go_wp2
        go_ret
        exact ⟨by rw [HRR.out]; rfl, Ext.trans HE1.out HE.out⟩
      · have heq : (x == s) = false := by
          cases hb : (x == s) with
          | false => rfl
          | true => exact absurd (eq_of_beq hb) hp
        have HN2 := Lib.hid (show ¬ s ∈ kwL.take (j + 1) from fun hy => by
          rw [hsucc] at hy
          rcases List.mem_append.1 hy with h | h
          · exact HNO.out h
          · exact hp (List.mem_singleton.1 h).symm)
        clear hm hsucc hp
        go_wp2
        go_roundw
        case rel => exact ⟨j + 1, by omega, by go_num, HN2.out, HE.out⟩
        case measure => simp [intOf]; omega
    · obtain rfl : j = 69 := by omega
      have HRR := Lib.hid (show R = false from HNN.out (fun h => HNO.out (by rw [List.take_of_length_le (by rw [kwL_len]; exact Nat.le_refl _)]; exact h)))
      clear hE hno
      go_wp2
      go_ret
      exact ⟨by rw [HRR.out]; rfl, Ext.trans HE1.out HE.out⟩
set_option maxRecDepth 100000 in
set_option maxHeartbeats 4000000 in
theorem rfPosition_any (s : List UInt8) (a : Int) (w : World) (hl : s.length ≤ 1000000) : Gives Tryz.prog 23 #[sV s, .int .i64 a] w (.tuple #[.int .i64 (posR s a).1, .int .i64 (posR s a).2]) := by
  unfold Gives
  have hsz := sB_size s
  by_cases h1 : a < 0
  · rw [posR_out (.inl h1)]
    go_enter Tryz.func23, Tryz.ntmps23
    go_wp2
    go_ret2
    exact ⟨rfl, Below.refl _ w⟩
  · by_cases h2 : (s.length : Int) < a
    · rw [posR_out (.inr h2)]
      go_enter Tryz.func23, Tryz.ntmps23
      go_wp2
      go_ret2
      exact ⟨rfl, Below.refl _ w⟩
    · obtain ⟨k, rfl⟩ : ∃ k : Nat, a = k := ⟨a.toNat, by omega⟩
      have hk : k ≤ s.length := by omega
      rw [posR_in hk]
      have HF := Lib.hid (fun (j : Nat) (hj : j < s.length) => posF_at hj)
      obtain ⟨P, hP⟩ : ∃ P, posF (s.take k) = P := ⟨_, rfl⟩
      rw [hP]
      have HP := Lib.hid hP
      clear hP
      obtain ⟨p1, p2⟩ := P
      dsimp only
      go_enter Tryz.func23, Tryz.ntmps23
      go_wp2
      go_loopw [6, 7, 8] (fun l c i wr => ∃ (j : Nat) (L C : Int), j ≤ k ∧ i = .int .i64 (j : Int) ∧ l = .int .i64 L ∧ c = .int .i64 C ∧ posF (s.take j) = (L, C) ∧ 1 ≤ L ∧ L ≤ j + 1 ∧ 1 ≤ C ∧ C ≤ j + 1 ∧ wr = w) (fun _ _ i _ => k - (intOf i).toNat)
      case atStart => exact ⟨0, 1, 1, Nat.zero_le _, rfl, rfl, rfl, rfl, by omega, by omega, by omega, by omega, rfl⟩
      case round =>
        obtain ⟨j, L, C, hj, rfl, rfl, rfl, hq, hL1, hL2, hC1, hC2, rfl⟩ := hrel
        by_cases hlt : j < k
        · have hjs : j < s.length := by omega
          have hF := HF.out j hjs
          rw [hq] at hF
          obtain ⟨c0, hc0⟩ : ∃ c0 : Nat, (s[j]).toNat = c0 := ⟨_, rfl⟩
          rw [hc0] at hF
          by_cases hc : c0 = 10
          · subst hc
            rw [if_pos rfl] at hF
            have HFF := Lib.hid hF
            clear hF hq
            go_wp2
            go_roundw
            case rel => exact ⟨j + 1, L + 1, 1, by omega, by go_num, by first | rfl | go_num, rfl, HFF.out, by omega, by omega, by omega, by omega, by first | rfl | trivial⟩
            case measure => simp [intOf]; omega
          · rw [if_neg hc] at hF
            have HFF := Lib.hid hF
            have hc' : ((c0 : Int) == 10) = false := by simpa using (show ¬ (c0 : Int) = 10 by omega)
            clear hF hq hc
            go_wp2
            go_roundw
            case rel => exact ⟨j + 1, L, C + 1, by omega, by go_num, rfl, by first | rfl | go_num, HFF.out, by omega, by omega, by omega, by omega, by first | rfl | trivial⟩
            case measure => simp [intOf]; omega
        · obtain rfl : j = k := by omega
          have hq2 := HP.out.symm.trans hq
          simp only [Prod.mk.injEq] at hq2
          obtain ⟨rfl, rfl⟩ := hq2
          clear hq
          go_wp2
          go_ret2
          exact ⟨rfl, Below.refl _ _⟩
set_option maxRecDepth 100000 in
set_option maxHeartbeats 4000000 in
theorem rfSame_any (l : List Tk) (p q : Option Addr) (c d : Nat) (w : World) (hP : TkRow w p l) (hQ : TkRow w q l) (hl : l.length ≤ 10000) :
    Gives Tryz.prog 24 #[.slice p l.length c, .slice q l.length d] w (.bool true) := by
  unfold Gives
  have HP := Lib.hid (fun W (hW : Ext w W) => hP.ext hW)
  have HQ := Lib.hid (fun W (hW : Ext w W) => hQ.ext hW)
  clear hP hQ
  obtain ⟨n, hn⟩ : ∃ n, l.length = n := ⟨_, rfl⟩
  rw [hn] at hl
  rw [hn]
  have HN := Lib.hid hn
  clear hn
  go_enter Tryz.func24, Tryz.ntmps24
  go_wp2
  go_loopw [5] (fun i wr => ∃ k : Nat, k ≤ n ∧ i = .int .i64 (k : Int) ∧ Ext w wr) (fun i _ => n - (intOf i).toNat)
  case atStart => exact ⟨0, Nat.zero_le _, rfl, Below.refl _ _⟩
  case round =>
    obtain ⟨k, hk, rfl, hE⟩ := hrel
    have HE := Lib.hid hE
    clear hE
    by_cases hlt : k < n
    · have hkl : k < l.length := by rw [HN.out]; exact hlt
      have HKL := Lib.hid hkl
      obtain ⟨b1, o1, hp1, c0, c1, c2, c3⟩ := HP.out wr HE.out k HKL.out
      obtain ⟨b2, o2, hp2, d0, d1, d2, d3⟩ := HQ.out wr HE.out k HKL.out
      subst hp1
      subst hp2
      clear hkl
      generalize (l[k]'HKL.out).kind = tk at *
      generalize (l[k]'HKL.out).text = tx at *
      generalize (l[k]'HKL.out).val = tv at *
      generalize (l[k]'HKL.out).pos = tp at *
      have hq := fun W => tk_neq tk tx tv tp tk tx tv tp W
      rw [tkEq_self] at hq
      have hk0 : (0 : Int) ≤ (k : Int) := by omega
      have hkn : (k : Int) < (n : Int) := by omega
      go_wp2
      go_quiet (fail)
      go_wp2
      go_roundw
      case rel => exact ⟨k + 1, by omega, by go_num, Ext.drewN' HE.out⟩
      case measure => simp [intOf]; omega
    · go_wp2
      go_ret
      exact ⟨rfl, HE.out⟩
end Go.Proofs.YtmokejjndkibhaaGreatDoor

namespace Go.Proofs.YtmokejjndkibhaaGreatDoor
open Go.RowKit Go.Shelf Ex
set_option linter.unusedVariables false
set_option linter.unusedSimpArgs false
attribute [local go_sem] sB_extract

theorem cnt_at (q : UInt8 → Bool) (s : List UInt8) (a : Nat) : ∀ d, d ≤ cntW q (s.drop a) → cntW q (s.drop (a + d)) + d = cntW q (s.drop a)
  | 0, _ => rfl
  | d + 1, h => by
    have ih := cnt_at q s a d (by omega)
    have hlt : a + d < s.length := by
      have := cntW_le q (s.drop (a + d))
      rw [List.length_drop] at this; omega
    rw [cntW_at hlt] at ih
    split at ih
    · rw [show a + (d + 1) = a + d + 1 by omega]; omega
    · omega
theorem cnt_in {q : UInt8 → Bool} {s : List UInt8} {a k : Nat} (h1 : a ≤ k) (h2 : k < a + cntW q (s.drop a)) : ∃ h : k < s.length, q s[k] = true := by
  have ih := cnt_at q s a (k - a) (by omega)
  rw [show a + (k - a) = k by omega] at ih
  have hlt : k < s.length := by
    have := cntW_le q (s.drop k)
    rw [List.length_drop] at this; omega
  refine ⟨hlt, ?_⟩
  rw [cntW_at hlt] at ih
  split at ih
  · assumption
  · omega
theorem cnt_end {q : UInt8 → Bool} {s : List UInt8} {a : Nat} (h : a + cntW q (s.drop a) < s.length) : q s[a + cntW q (s.drop a)] = false := by
  have ih := cnt_at q s a _ (Nat.le_refl _)
  rw [cntW_at h] at ih
  split at ih
  · omega
  · rename_i hq; simpa using hq
set_option maxRecDepth 100000 in
set_option maxHeartbeats 8000000 in
theorem rfOneN_any (s : List UInt8) (a : Nat) (w : World) (hs : s.length ≤ 100000) (h : a < s.length) (hl : letB s[a] = true) :
    Gives Tryz.prog 49 #[sV s, .int .i64 (a : Int)] w (.tuple #[TV (oneT (s.drop a) (a : Int)).1, .int .i64 (oneT (s.drop a) (a : Int)).2]) := by
  unfold Gives
  have hsz := sB_size s
  have hqa0 : a < (sB s).size := by omega
  have KL := Lib.hid (fun W => (show Gives Tryz.prog 74 #[.int .u8 ((s[a]'h).toNat : Int)] W (.bool true) from by rw [← hl]; exact rfLetter_any _ W))
  have hR0 := oneT_name h hl (a : Int)
  have hle := cntW_le insC (s.drop a)
  rw [List.length_drop] at hle
  have HIN := Lib.hid (fun k h1 h2 => cnt_in (q := insC) (s := s) (a := a) (k := k) h1 h2)
  have HEND := Lib.hid (fun h => cnt_end (q := insC) (s := s) (a := a) h)
  have HT := Lib.hid (sub_take s a (cntW insC (s.drop a)))
  generalize cntW insC (s.drop a) = n at *
  generalize (s.drop a).take n = T at *
  obtain ⟨m, hm⟩ : ∃ m, a + n = m := ⟨_, rfl⟩
  rw [hm] at HIN HT
  simp only [hm] at HEND
  generalize oneT (s.drop a) (a : Int) = R at *
  have HR := Lib.hid hR0.symm
  clear hl hR0
  go_enter Tryz.func49, Tryz.ntmps49
  go_wp2_with fail
  refine (KL.out _).mono ?_
  intro w1 hE
  obtain ⟨hb, hE1⟩ := kept_new hE
  have HB1 := Lib.hid hb
  have HE1 := Lib.hid hE1
  clear hE hE1
  have d0 := cell_of (i := 0) hb rfl
  have d1 := cell_of (i := 1) hb rfl
  have d2 := cell_of (i := 2) hb rfl
  have d3 := cell_of (i := 3) hb rfl
  have f0 : ∀ i, w1.frozen? ⟨w.heap.size, i, none⟩ = false := fun i => free_of hb
  clear hb
  go_wp2
  go_loopw [6] (fun v wr => ∃ k : Nat, a ≤ k ∧ k ≤ m ∧ v = .int .i64 (k : Int) ∧ wr.heap[w.heap.size]? = some (.cells #[.int .i64 0, sV [], .int .i64 0, .int .i64 0] tTk (0, 0)) ∧ Ext w wr) (fun v _ => m - (intOf v).toNat)
  case atStart => exact ⟨a, Nat.le_refl _, by omega, rfl, HB1.out, HE1.out⟩
  case round =>
    obtain ⟨k, hk1, hk2, rfl, hb, hE⟩ := hrel
    have HB2 := Lib.hid hb
    have HE2 := Lib.hid hE
    clear hE d0 d1 d2 d3 f0
    have d0 := cell_of (i := 0) hb rfl
    have d1 := cell_of (i := 1) hb rfl
    have d2 := cell_of (i := 2) hb rfl
    have d3 := cell_of (i := 3) hb rfl
    have f0 : ∀ i, wr.frozen? ⟨w.heap.size, i, none⟩ = false := fun i => free_of hb
    clear hb
    by_cases hlt : k < m
    · obtain ⟨hks, hq⟩ := HIN.out k hk1 hlt
      have KQ := Lib.hid (fun W => (show Gives Tryz.prog 75 #[.int .u8 ((s[k]'hks).toNat : Int)] W (.bool true) from by rw [← hq]; exact rfInside_any _ W))
      have hq2 : k < (sB s).size := by omega
      clear hq
      go_wp2_with fail
      refine (KQ.out _).mono ?_
      intro w3 hE
      have hb := (hE.block _ (lt_of_block HB2.out)).trans HB2.out
      have HB3 := Lib.hid hb
      have HE3 := Lib.hid (Ext.trans HE2.out hE)
      clear hE hb d0 d1 d2 d3 f0
      go_wp2
      go_roundw
      case rel => exact ⟨k + 1, by omega, by omega, by go_num, HB3.out, HE3.out⟩
      case measure => simp [intOf]; omega
    · obtain rfl : k = m := by omega
      clear hk1 hk2 hlt HIN
      by_cases hks : k < s.length
      · have hq2 : k < (sB s).size := by omega
        have hqf := HEND.out hks
        have KQ := Lib.hid (fun W => (show Gives Tryz.prog 75 #[.int .u8 ((s[k]'hks).toNat : Int)] W (.bool false) from by rw [← hqf]; exact rfInside_any _ W))
        go_wp2_with fail
        refine (KQ.out _).mono ?_
        intro w3 hE
        have hb := (hE.block _ (lt_of_block HB2.out)).trans HB2.out
        have HB3 := Lib.hid hb
        have HE3 := Lib.hid (Ext.trans HE2.out hE)
        clear hE
        clear d0 d1 d2 d3 f0
        have d0 := cell_of (i := 0) hb rfl
        have d1 := cell_of (i := 1) hb rfl
        have d2 := cell_of (i := 2) hb rfl
        have d3 := cell_of (i := 3) hb rfl
        have f0 : ∀ i, w3.frozen? ⟨w.heap.size, i, none⟩ = false := fun i => free_of hb
        clear hb
        by_cases hn : 30 < n
        · have hn2 : (30 : Int) < (k : Int) - (a : Int) := by omega
          go_wp2
          obtain ⟨W', hW', h3, h4, h5⟩ := put4 (HB3).out rfl (.int .i64 0) (.string { data := #[] }) (.int .i64 0) (.int .i64 0)
          rw [hW']
          have e0 := cell_of (i := 0) h3 rfl
          have e1 := cell_of (i := 1) h3 rfl
          have e2 := cell_of (i := 2) h3 rfl
          have e3 := cell_of (i := 3) h3 rfl
          exact bodyPost_ret (v := .tuple #[.agg #[(.int .i64 0), (.string { data := #[] }), (.int .i64 0), (.int .i64 0)], .int .i64 5]) (by simp [results, Tryz.f49, go_sem, e0, e1, e2, e3]) rfl ⟨(by rw [← HR.out, if_pos hn]; rfl), Below.trans (HE3).out (h4 _ (Nat.le_refl _))⟩
        · have hn2 : ¬ (30 : Int) < (k : Int) - (a : Int) := by omega
          go_wp2
          obtain ⟨W', hW', h3, h4, h5⟩ := put4 (HB3).out rfl (.int .i64 1) (.string (sB ((s.take k).drop a))) (.int .i64 0) (.int .i64 (a : Int))
          rw [hW']
          have e0 := cell_of (i := 0) h3 rfl
          have e1 := cell_of (i := 1) h3 rfl
          have e2 := cell_of (i := 2) h3 rfl
          have e3 := cell_of (i := 3) h3 rfl
          exact bodyPost_ret (v := .tuple #[.agg #[(.int .i64 1), (.string (sB ((s.take k).drop a))), (.int .i64 0), (.int .i64 (a : Int))], .int .i64 0]) (by simp [results, Tryz.f49, go_sem, e0, e1, e2, e3]) rfl ⟨(by rw [← HR.out, if_neg hn, HT.out]), Below.trans (HE3).out (h4 _ (Nat.le_refl _))⟩
      · have hks2 : ¬ (k : Int) < (s.length : Int) := by omega
        by_cases hn : 30 < n
        · have hn2 : (30 : Int) < (k : Int) - (a : Int) := by omega
          go_wp2
          obtain ⟨W', hW', h3, h4, h5⟩ := put4 (HB2).out rfl (.int .i64 0) (.string { data := #[] }) (.int .i64 0) (.int .i64 0)
          rw [hW']
          have e0 := cell_of (i := 0) h3 rfl
          have e1 := cell_of (i := 1) h3 rfl
          have e2 := cell_of (i := 2) h3 rfl
          have e3 := cell_of (i := 3) h3 rfl
          exact bodyPost_ret (v := .tuple #[.agg #[(.int .i64 0), (.string { data := #[] }), (.int .i64 0), (.int .i64 0)], .int .i64 5]) (by simp [results, Tryz.f49, go_sem, e0, e1, e2, e3]) rfl ⟨(by rw [← HR.out, if_pos hn]; rfl), Below.trans (HE2).out (h4 _ (Nat.le_refl _))⟩
        · have hn2 : ¬ (30 : Int) < (k : Int) - (a : Int) := by omega
          go_wp2
          obtain ⟨W', hW', h3, h4, h5⟩ := put4 (HB2).out rfl (.int .i64 1) (.string (sB ((s.take k).drop a))) (.int .i64 0) (.int .i64 (a : Int))
          rw [hW']
          have e0 := cell_of (i := 0) h3 rfl
          have e1 := cell_of (i := 1) h3 rfl
          have e2 := cell_of (i := 2) h3 rfl
          have e3 := cell_of (i := 3) h3 rfl
          exact bodyPost_ret (v := .tuple #[.agg #[(.int .i64 1), (.string (sB ((s.take k).drop a))), (.int .i64 0), (.int .i64 (a : Int))], .int .i64 0]) (by simp [results, Tryz.f49, go_sem, e0, e1, e2, e3]) rfl ⟨(by rw [← HR.out, if_neg hn, HT.out]), Below.trans (HE2).out (h4 _ (Nat.le_refl _))⟩
set_option maxRecDepth 100000 in
set_option maxHeartbeats 8000000 in
theorem rfOneD_any (s : List UInt8) (a : Nat) (w : World) (hs : s.length ≤ 100000) (h : a < s.length) (hl : letB s[a] = false) (hd : digB s[a] = true) :
    Gives Tryz.prog 49 #[sV s, .int .i64 (a : Int)] w (.tuple #[TV (oneT (s.drop a) (a : Int)).1, .int .i64 (oneT (s.drop a) (a : Int)).2]) := by
  unfold Gives
  have hsz := sB_size s
  have hqa0 : a < (sB s).size := by omega
  have KL := Lib.hid (fun W => (show Gives Tryz.prog 74 #[.int .u8 ((s[a]'h).toNat : Int)] W (.bool false) from by rw [← hl]; exact rfLetter_any _ W))
  have KD := Lib.hid (fun W => (show Gives Tryz.prog 76 #[.int .u8 ((s[a]'h).toNat : Int)] W (.bool true) from by rw [← hd]; exact rfDigit_any _ W))
  have hR0 := oneT_num h hl hd (a : Int)
  have hle := cntW_le digB (s.drop a)
  rw [List.length_drop] at hle
  have HIN := Lib.hid (fun k h1 h2 => cnt_in (q := digB) (s := s) (a := a) (k := k) h1 h2)
  have HEND := Lib.hid (fun h => cnt_end (q := digB) (s := s) (a := a) h)
  have HT := Lib.hid (sub_take s a (cntW digB (s.drop a)))
  have hdg := digs_take (s.drop a)
  have HANY := Lib.hid (fun hks : a + cntW digB (s.drop a) < s.length => (show ((s[a + cntW digB (s.drop a)]?).any fun d => letB d || decide (d.toNat = 95)) = insC (s[a + cntW digB (s.drop a)]'hks) from by
    have hf := cnt_end (q := digB) hks
    rw [List.getElem?_eq_getElem hks]
    unfold insC
    rw [hf]
    simp))
  have HANY0 := Lib.hid (fun hks : ¬ a + cntW digB (s.drop a) < s.length => (show ((s[a + cntW digB (s.drop a)]?).any fun d => letB d || decide (d.toNat = 95)) = false from by
    rw [List.getElem?_eq_none (by omega)]; rfl))
  generalize cntW digB (s.drop a) = n at *
  have hTl : ((s.drop a).take n).length ≤ 100000 := by rw [List.length_take, List.length_drop]; omega
  generalize (s.drop a).take n = T at *
  obtain ⟨m, hm⟩ : ∃ m, a + n = m := ⟨_, rfl⟩
  rw [hm] at HIN HT
  simp only [hm] at HEND HANY HANY0
  rw [hm] at hR0
  generalize oneT (s.drop a) (a : Int) = R at *
  have HR := Lib.hid hR0.symm
  have KN := Lib.hid (fun W => (show Gives Tryz.prog 77 #[sV ((s.take m).drop a)] W (.int .i64 (satV 0 T)) from by rw [HT.out]; exact rfNumber_any T hdg hTl W))
  have HBIG := Lib.hid (fun hb : 1099511627776 < satV 0 T => (show 1099511627776 < numV T from by rcases satV_num hdg with e | e <;> omega))
  have HSML := Lib.hid (fun hb : satV 0 T ≤ 1099511627776 => (show numV T ≤ 1099511627776 ∧ satV 0 T = numV T from by rcases satV_num hdg with e | e <;> exact ⟨by omega, by omega⟩))
  clear hl hd hdg hTl hR0
  go_enter Tryz.func49, Tryz.ntmps49
  go_wp2_with fail
  refine (KL.out _).mono ?_
  intro w1 hE
  obtain ⟨hb, hE1⟩ := kept_new hE
  have HB1 := Lib.hid hb
  have HE1 := Lib.hid hE1
  clear hE hE1
  have d0 := cell_of (i := 0) hb rfl
  have d1 := cell_of (i := 1) hb rfl
  have d2 := cell_of (i := 2) hb rfl
  have d3 := cell_of (i := 3) hb rfl
  have f0 : ∀ i, w1.frozen? ⟨w.heap.size, i, none⟩ = false := fun i => free_of hb
  clear hb
  go_wp2_with fail
  refine (KD.out _).mono ?_
  intro w2 hE
  have hb := (hE.block _ (lt_of_block HB1.out)).trans HB1.out
  have HB2 := Lib.hid hb
  have HE2 := Lib.hid (Ext.trans HE1.out hE)
  clear hE
  clear d0 d1 d2 d3 f0
  have d0 := cell_of (i := 0) hb rfl
  have d1 := cell_of (i := 1) hb rfl
  have d2 := cell_of (i := 2) hb rfl
  have d3 := cell_of (i := 3) hb rfl
  have f0 : ∀ i, w2.frozen? ⟨w.heap.size, i, none⟩ = false := fun i => free_of hb
  clear hb
  go_wp2
  go_loopw [6] (fun v wr => ∃ k : Nat, a ≤ k ∧ k ≤ m ∧ v = .int .i64 (k : Int) ∧ wr.heap[w.heap.size]? = some (.cells #[.int .i64 0, sV [], .int .i64 0, .int .i64 0] tTk (0, 0)) ∧ Ext w wr) (fun v _ => m - (intOf v).toNat)
  case atStart => exact ⟨a, Nat.le_refl _, by omega, rfl, HB2.out, HE2.out⟩
  case round =>
    obtain ⟨k, hk1, hk2, rfl, hb, hE⟩ := hrel
    have HB2 := Lib.hid hb
    have HE2 := Lib.hid hE
    clear hE d0 d1 d2 d3 f0
    have d0 := cell_of (i := 0) hb rfl
    have d1 := cell_of (i := 1) hb rfl
    have d2 := cell_of (i := 2) hb rfl
    have d3 := cell_of (i := 3) hb rfl
    have f0 : ∀ i, wr.frozen? ⟨w.heap.size, i, none⟩ = false := fun i => free_of hb
    clear hb
    by_cases hlt : k < m
    · obtain ⟨hks, hq⟩ := HIN.out k hk1 hlt
      have KQ := Lib.hid (fun W => (show Gives Tryz.prog 76 #[.int .u8 ((s[k]'hks).toNat : Int)] W (.bool true) from by rw [← hq]; exact rfDigit_any _ W))
      have hq2 : k < (sB s).size := by omega
      clear hq
      go_wp2_with fail
      refine (KQ.out _).mono ?_
      intro w3 hE
      have hb := (hE.block _ (lt_of_block HB2.out)).trans HB2.out
      have HB3 := Lib.hid hb
      have HE3 := Lib.hid (Ext.trans HE2.out hE)
      clear hE hb d0 d1 d2 d3 f0
      go_wp2
      go_roundw
      case rel => exact ⟨k + 1, by omega, by omega, by go_num, HB3.out, HE3.out⟩
      case measure => simp [intOf]; omega
    · obtain rfl : k = m := by omega
      clear hk1 hk2 hlt HIN
      by_cases hks : k < s.length
      · have hq2 : k < (sB s).size := by omega
        have hqf := HEND.out hks
        have KQ := Lib.hid (fun W => (show Gives Tryz.prog 76 #[.int .u8 ((s[k]'hks).toNat : Int)] W (.bool false) from by rw [← hqf]; exact rfDigit_any _ W))
        go_wp2_with fail
        refine (KQ.out _).mono ?_
        intro w3 hE
        have hb := (hE.block _ (lt_of_block HB2.out)).trans HB2.out
        have HB3 := Lib.hid hb
        have HE3 := Lib.hid (Ext.trans HE2.out hE)
        clear hE
        clear d0 d1 d2 d3 f0
        have d0 := cell_of (i := 0) hb rfl
        have d1 := cell_of (i := 1) hb rfl
        have d2 := cell_of (i := 2) hb rfl
        have d3 := cell_of (i := 3) hb rfl
        have f0 : ∀ i, w3.frozen? ⟨w.heap.size, i, none⟩ = false := fun i => free_of hb
        clear hb
        by_cases hbad : 1 < n ∧ (s[a]'h).toNat = 48
        · have HBAD := Lib.hid hbad
          obtain ⟨b1, b2⟩ := hbad
          have b3 : (1 : Int) < (k : Int) - (a : Int) := by omega
          have hqa : a < (sB s).size := by omega
          go_wp2
          obtain ⟨W', hW', h3, h4, h5⟩ := put4 (HB3).out rfl (.int .i64 0) (.string { data := #[] }) (.int .i64 0) (.int .i64 0)
          rw [hW']
          have e0 := cell_of (i := 0) h3 rfl
          have e1 := cell_of (i := 1) h3 rfl
          have e2 := cell_of (i := 2) h3 rfl
          have e3 := cell_of (i := 3) h3 rfl
          exact bodyPost_ret (v := .tuple #[.agg #[(.int .i64 0), (.string { data := #[] }), (.int .i64 0), (.int .i64 0)], .int .i64 3]) (by simp [results, Tryz.f49, go_sem, e0, e1, e2, e3]) rfl ⟨(by rw [← HR.out, if_pos (Or.inl HBAD.out)]; rfl), Below.trans (HE3).out (h4 _ (Nat.le_refl _))⟩
        · by_cases b1 : 1 < n
          · have b2 : (((s[a]'h).toNat : Int) == 48) = false := beq_eq_false_iff_ne.2 (by intro e; exact hbad ⟨b1, by omega⟩)
            have b3 : (1 : Int) < (k : Int) - (a : Int) := by omega
            have hqa : a < (sB s).size := by omega
            obtain ⟨lb, hlb⟩ : ∃ b, insC (s[k]'hks) = b := ⟨_, rfl⟩
            have hany := HANY.out hks
            rw [hlb] at hany
            have KI2 := Lib.hid (fun W => (show Gives Tryz.prog 75 #[.int .u8 ((s[k]'hks).toNat : Int)] W (.bool lb) from by rw [← hlb]; exact rfInside_any _ W))
            clear hlb
            cases lb with
            | true =>
              have HAN := Lib.hid hany
              clear hany
              go_wp2_with fail
              refine (KI2.out _).mono ?_
              intro w4 hE
              have hb := (hE.block _ (lt_of_block HB3.out)).trans HB3.out
              have HB4 := Lib.hid hb
              have HE4 := Lib.hid (Ext.trans HE3.out hE)
              clear hE
              clear d0 d1 d2 d3 f0
              have d0 := cell_of (i := 0) hb rfl
              have d1 := cell_of (i := 1) hb rfl
              have d2 := cell_of (i := 2) hb rfl
              have d3 := cell_of (i := 3) hb rfl
              have f0 : ∀ i, w4.frozen? ⟨w.heap.size, i, none⟩ = false := fun i => free_of hb
              clear hb
              go_wp2
              obtain ⟨W', hW', h3, h4, h5⟩ := put4 (HB4).out rfl (.int .i64 0) (.string { data := #[] }) (.int .i64 0) (.int .i64 0)
              rw [hW']
              have e0 := cell_of (i := 0) h3 rfl
              have e1 := cell_of (i := 1) h3 rfl
              have e2 := cell_of (i := 2) h3 rfl
              have e3 := cell_of (i := 3) h3 rfl
              exact bodyPost_ret (v := .tuple #[.agg #[(.int .i64 0), (.string { data := #[] }), (.int .i64 0), (.int .i64 0)], .int .i64 3]) (by simp [results, Tryz.f49, go_sem, e0, e1, e2, e3]) rfl ⟨(by rw [← HR.out, if_pos (Or.inr HAN.out)]; rfl), Below.trans (HE4).out (h4 _ (Nat.le_refl _))⟩
            | false =>
              have HNB := Lib.hid (show ¬ ((1 < n ∧ (s[a]'h).toNat = 48) ∨ ((s[k]?).any fun d => letB d || decide (d.toNat = 95)) = true) from fun e => e.elim hbad (fun e2 => by rw [hany] at e2; cases e2))
              clear hany
              go_wp2_with fail
              refine (KI2.out _).mono ?_
              intro w4 hE
              have hb := (hE.block _ (lt_of_block HB3.out)).trans HB3.out
              have HB4 := Lib.hid hb
              have HE4 := Lib.hid (Ext.trans HE3.out hE)
              clear hE
              clear d0 d1 d2 d3 f0
              have d0 := cell_of (i := 0) hb rfl
              have d1 := cell_of (i := 1) hb rfl
              have d2 := cell_of (i := 2) hb rfl
              have d3 := cell_of (i := 3) hb rfl
              have f0 : ∀ i, w4.frozen? ⟨w.heap.size, i, none⟩ = false := fun i => free_of hb
              clear hb
              go_wp2_with fail
              refine (KN.out _).mono ?_
              intro w5 hE
              have hb := (hE.block _ (lt_of_block HB4.out)).trans HB4.out
              have HB5 := Lib.hid hb
              have HE5 := Lib.hid (Ext.trans HE4.out hE)
              clear hE
              clear d0 d1 d2 d3 f0
              have d0 := cell_of (i := 0) hb rfl
              have d1 := cell_of (i := 1) hb rfl
              have d2 := cell_of (i := 2) hb rfl
              have d3 := cell_of (i := 3) hb rfl
              have f0 : ∀ i, w5.frozen? ⟨w.heap.size, i, none⟩ = false := fun i => free_of hb
              clear hb
              by_cases hbig : 1099511627776 < satV 0 T
              · go_wp2
                obtain ⟨W', hW', h3, h4, h5⟩ := put4 (HB5).out rfl (.int .i64 0) (.string { data := #[] }) (.int .i64 0) (.int .i64 0)
                rw [hW']
                have e0 := cell_of (i := 0) h3 rfl
                have e1 := cell_of (i := 1) h3 rfl
                have e2 := cell_of (i := 2) h3 rfl
                have e3 := cell_of (i := 3) h3 rfl
                exact bodyPost_ret (v := .tuple #[.agg #[(.int .i64 0), (.string { data := #[] }), (.int .i64 0), (.int .i64 0)], .int .i64 2]) (by simp [results, Tryz.f49, go_sem, e0, e1, e2, e3]) rfl ⟨(by rw [← HR.out, if_neg HNB.out, if_pos (HBIG.out hbig)]; rfl), Below.trans (HE5).out (h4 _ (Nat.le_refl _))⟩
              · have HSV := Lib.hid (HSML.out (by omega))
                obtain ⟨nv, hnv⟩ : ∃ v, satV 0 T = v := ⟨_, rfl⟩
                have HNV := Lib.hid hnv
                rw [hnv] at hbig ⊢
                clear hnv
                go_wp2
                obtain ⟨W', hW', h3, h4, h5⟩ := put4 (HB5).out rfl (.int .i64 2) (.string (sB ((s.take k).drop a))) (.int .i64 nv) (.int .i64 (a : Int))
                rw [hW']
                have e0 := cell_of (i := 0) h3 rfl
                have e1 := cell_of (i := 1) h3 rfl
                have e2 := cell_of (i := 2) h3 rfl
                have e3 := cell_of (i := 3) h3 rfl
                exact bodyPost_ret (v := .tuple #[.agg #[(.int .i64 2), (.string (sB ((s.take k).drop a))), (.int .i64 nv), (.int .i64 (a : Int))], .int .i64 0]) (by simp [results, Tryz.f49, go_sem, e0, e1, e2, e3]) rfl ⟨(by rw [← HR.out, if_neg HNB.out, if_neg (by have h9 := HSV.out.1; omega), ← HSV.out.2, HNV.out, HT.out]), Below.trans (HE5).out (h4 _ (Nat.le_refl _))⟩
          · have b3 : ¬ (1 : Int) < (k : Int) - (a : Int) := by omega
            obtain ⟨lb, hlb⟩ : ∃ b, insC (s[k]'hks) = b := ⟨_, rfl⟩
            have hany := HANY.out hks
            rw [hlb] at hany
            have KI2 := Lib.hid (fun W => (show Gives Tryz.prog 75 #[.int .u8 ((s[k]'hks).toNat : Int)] W (.bool lb) from by rw [← hlb]; exact rfInside_any _ W))
            clear hlb
            cases lb with
            | true =>
              have HAN := Lib.hid hany
              clear hany
              go_wp2_with fail
              refine (KI2.out _).mono ?_
              intro w4 hE
              have hb := (hE.block _ (lt_of_block HB3.out)).trans HB3.out
              have HB4 := Lib.hid hb
              have HE4 := Lib.hid (Ext.trans HE3.out hE)
              clear hE
              clear d0 d1 d2 d3 f0
              have d0 := cell_of (i := 0) hb rfl
              have d1 := cell_of (i := 1) hb rfl
              have d2 := cell_of (i := 2) hb rfl
              have d3 := cell_of (i := 3) hb rfl
              have f0 : ∀ i, w4.frozen? ⟨w.heap.size, i, none⟩ = false := fun i => free_of hb
              clear hb
              go_wp2
              obtain ⟨W', hW', h3, h4, h5⟩ := put4 (HB4).out rfl (.int .i64 0) (.string { data := #[] }) (.int .i64 0) (.int .i64 0)
              rw [hW']
              have e0 := cell_of (i := 0) h3 rfl
              have e1 := cell_of (i := 1) h3 rfl
              have e2 := cell_of (i := 2) h3 rfl
              have e3 := cell_of (i := 3) h3 rfl
              exact bodyPost_ret (v := .tuple #[.agg #[(.int .i64 0), (.string { data := #[] }), (.int .i64 0), (.int .i64 0)], .int .i64 3]) (by simp [results, Tryz.f49, go_sem, e0, e1, e2, e3]) rfl ⟨(by rw [← HR.out, if_pos (Or.inr HAN.out)]; rfl), Below.trans (HE4).out (h4 _ (Nat.le_refl _))⟩
            | false =>
              have HNB := Lib.hid (show ¬ ((1 < n ∧ (s[a]'h).toNat = 48) ∨ ((s[k]?).any fun d => letB d || decide (d.toNat = 95)) = true) from fun e => e.elim hbad (fun e2 => by rw [hany] at e2; cases e2))
              clear hany
              go_wp2_with fail
              refine (KI2.out _).mono ?_
              intro w4 hE
              have hb := (hE.block _ (lt_of_block HB3.out)).trans HB3.out
              have HB4 := Lib.hid hb
              have HE4 := Lib.hid (Ext.trans HE3.out hE)
              clear hE
              clear d0 d1 d2 d3 f0
              have d0 := cell_of (i := 0) hb rfl
              have d1 := cell_of (i := 1) hb rfl
              have d2 := cell_of (i := 2) hb rfl
              have d3 := cell_of (i := 3) hb rfl
              have f0 : ∀ i, w4.frozen? ⟨w.heap.size, i, none⟩ = false := fun i => free_of hb
              clear hb
              go_wp2_with fail
              refine (KN.out _).mono ?_
              intro w5 hE
              have hb := (hE.block _ (lt_of_block HB4.out)).trans HB4.out
              have HB5 := Lib.hid hb
              have HE5 := Lib.hid (Ext.trans HE4.out hE)
              clear hE
              clear d0 d1 d2 d3 f0
              have d0 := cell_of (i := 0) hb rfl
              have d1 := cell_of (i := 1) hb rfl
              have d2 := cell_of (i := 2) hb rfl
              have d3 := cell_of (i := 3) hb rfl
              have f0 : ∀ i, w5.frozen? ⟨w.heap.size, i, none⟩ = false := fun i => free_of hb
              clear hb
              by_cases hbig : 1099511627776 < satV 0 T
              · go_wp2
                obtain ⟨W', hW', h3, h4, h5⟩ := put4 (HB5).out rfl (.int .i64 0) (.string { data := #[] }) (.int .i64 0) (.int .i64 0)
                rw [hW']
                have e0 := cell_of (i := 0) h3 rfl
                have e1 := cell_of (i := 1) h3 rfl
                have e2 := cell_of (i := 2) h3 rfl
                have e3 := cell_of (i := 3) h3 rfl
                exact bodyPost_ret (v := .tuple #[.agg #[(.int .i64 0), (.string { data := #[] }), (.int .i64 0), (.int .i64 0)], .int .i64 2]) (by simp [results, Tryz.f49, go_sem, e0, e1, e2, e3]) rfl ⟨(by rw [← HR.out, if_neg HNB.out, if_pos (HBIG.out hbig)]; rfl), Below.trans (HE5).out (h4 _ (Nat.le_refl _))⟩
              · have HSV := Lib.hid (HSML.out (by omega))
                obtain ⟨nv, hnv⟩ : ∃ v, satV 0 T = v := ⟨_, rfl⟩
                have HNV := Lib.hid hnv
                rw [hnv] at hbig ⊢
                clear hnv
                go_wp2
                obtain ⟨W', hW', h3, h4, h5⟩ := put4 (HB5).out rfl (.int .i64 2) (.string (sB ((s.take k).drop a))) (.int .i64 nv) (.int .i64 (a : Int))
                rw [hW']
                have e0 := cell_of (i := 0) h3 rfl
                have e1 := cell_of (i := 1) h3 rfl
                have e2 := cell_of (i := 2) h3 rfl
                have e3 := cell_of (i := 3) h3 rfl
                exact bodyPost_ret (v := .tuple #[.agg #[(.int .i64 2), (.string (sB ((s.take k).drop a))), (.int .i64 nv), (.int .i64 (a : Int))], .int .i64 0]) (by simp [results, Tryz.f49, go_sem, e0, e1, e2, e3]) rfl ⟨(by rw [← HR.out, if_neg HNB.out, if_neg (by have h9 := HSV.out.1; omega), ← HSV.out.2, HNV.out, HT.out]), Below.trans (HE5).out (h4 _ (Nat.le_refl _))⟩
      · have hks2 : ¬ (k : Int) < (s.length : Int) := by omega
        by_cases hbad : 1 < n ∧ (s[a]'h).toNat = 48
        · have HBAD := Lib.hid hbad
          obtain ⟨b1, b2⟩ := hbad
          have b3 : (1 : Int) < (k : Int) - (a : Int) := by omega
          have hqa : a < (sB s).size := by omega
          go_wp2
          obtain ⟨W', hW', h3, h4, h5⟩ := put4 (HB2).out rfl (.int .i64 0) (.string { data := #[] }) (.int .i64 0) (.int .i64 0)
          rw [hW']
          have e0 := cell_of (i := 0) h3 rfl
          have e1 := cell_of (i := 1) h3 rfl
          have e2 := cell_of (i := 2) h3 rfl
          have e3 := cell_of (i := 3) h3 rfl
          exact bodyPost_ret (v := .tuple #[.agg #[(.int .i64 0), (.string { data := #[] }), (.int .i64 0), (.int .i64 0)], .int .i64 3]) (by simp [results, Tryz.f49, go_sem, e0, e1, e2, e3]) rfl ⟨(by rw [← HR.out, if_pos (Or.inl HBAD.out)]; rfl), Below.trans (HE2).out (h4 _ (Nat.le_refl _))⟩
        · by_cases b1 : 1 < n
          · have b2 : (((s[a]'h).toNat : Int) == 48) = false := beq_eq_false_iff_ne.2 (by intro e; exact hbad ⟨b1, by omega⟩)
            have b3 : (1 : Int) < (k : Int) - (a : Int) := by omega
            have hqa : a < (sB s).size := by omega
            have hany := HANY0.out hks
            have HNB := Lib.hid (show ¬ ((1 < n ∧ (s[a]'h).toNat = 48) ∨ ((s[k]?).any fun d => letB d || decide (d.toNat = 95)) = true) from fun e => e.elim hbad (fun e2 => by rw [hany] at e2; cases e2))
            clear hany
            go_wp2_with fail
            refine (KN.out _).mono ?_
            intro w3 hE
            have hb := (hE.block _ (lt_of_block HB2.out)).trans HB2.out
            have HB3 := Lib.hid hb
            have HE3 := Lib.hid (Ext.trans HE2.out hE)
            clear hE
            clear d0 d1 d2 d3 f0
            have d0 := cell_of (i := 0) hb rfl
            have d1 := cell_of (i := 1) hb rfl
            have d2 := cell_of (i := 2) hb rfl
            have d3 := cell_of (i := 3) hb rfl
            have f0 : ∀ i, w3.frozen? ⟨w.heap.size, i, none⟩ = false := fun i => free_of hb
            clear hb
            by_cases hbig : 1099511627776 < satV 0 T
            · go_wp2
              obtain ⟨W', hW', h3, h4, h5⟩ := put4 (HB3).out rfl (.int .i64 0) (.string { data := #[] }) (.int .i64 0) (.int .i64 0)
              rw [hW']
              have e0 := cell_of (i := 0) h3 rfl
              have e1 := cell_of (i := 1) h3 rfl
              have e2 := cell_of (i := 2) h3 rfl
              have e3 := cell_of (i := 3) h3 rfl
              exact bodyPost_ret (v := .tuple #[.agg #[(.int .i64 0), (.string { data := #[] }), (.int .i64 0), (.int .i64 0)], .int .i64 2]) (by simp [results, Tryz.f49, go_sem, e0, e1, e2, e3]) rfl ⟨(by rw [← HR.out, if_neg HNB.out, if_pos (HBIG.out hbig)]; rfl), Below.trans (HE3).out (h4 _ (Nat.le_refl _))⟩
            · have HSV := Lib.hid (HSML.out (by omega))
              obtain ⟨nv, hnv⟩ : ∃ v, satV 0 T = v := ⟨_, rfl⟩
              have HNV := Lib.hid hnv
              rw [hnv] at hbig ⊢
              clear hnv
              go_wp2
              obtain ⟨W', hW', h3, h4, h5⟩ := put4 (HB3).out rfl (.int .i64 2) (.string (sB ((s.take k).drop a))) (.int .i64 nv) (.int .i64 (a : Int))
              rw [hW']
              have e0 := cell_of (i := 0) h3 rfl
              have e1 := cell_of (i := 1) h3 rfl
              have e2 := cell_of (i := 2) h3 rfl
              have e3 := cell_of (i := 3) h3 rfl
              exact bodyPost_ret (v := .tuple #[.agg #[(.int .i64 2), (.string (sB ((s.take k).drop a))), (.int .i64 nv), (.int .i64 (a : Int))], .int .i64 0]) (by simp [results, Tryz.f49, go_sem, e0, e1, e2, e3]) rfl ⟨(by rw [← HR.out, if_neg HNB.out, if_neg (by have h9 := HSV.out.1; omega), ← HSV.out.2, HNV.out, HT.out]), Below.trans (HE3).out (h4 _ (Nat.le_refl _))⟩
          · have b3 : ¬ (1 : Int) < (k : Int) - (a : Int) := by omega
            have hany := HANY0.out hks
            have HNB := Lib.hid (show ¬ ((1 < n ∧ (s[a]'h).toNat = 48) ∨ ((s[k]?).any fun d => letB d || decide (d.toNat = 95)) = true) from fun e => e.elim hbad (fun e2 => by rw [hany] at e2; cases e2))
            clear hany
            go_wp2_with fail
            refine (KN.out _).mono ?_
            intro w3 hE
            have hb := (hE.block _ (lt_of_block HB2.out)).trans HB2.out
            have HB3 := Lib.hid hb
            have HE3 := Lib.hid (Ext.trans HE2.out hE)
            clear hE
            clear d0 d1 d2 d3 f0
            have d0 := cell_of (i := 0) hb rfl
            have d1 := cell_of (i := 1) hb rfl
            have d2 := cell_of (i := 2) hb rfl
            have d3 := cell_of (i := 3) hb rfl
            have f0 : ∀ i, w3.frozen? ⟨w.heap.size, i, none⟩ = false := fun i => free_of hb
            clear hb
            by_cases hbig : 1099511627776 < satV 0 T
            · go_wp2
              obtain ⟨W', hW', h3, h4, h5⟩ := put4 (HB3).out rfl (.int .i64 0) (.string { data := #[] }) (.int .i64 0) (.int .i64 0)
              rw [hW']
              have e0 := cell_of (i := 0) h3 rfl
              have e1 := cell_of (i := 1) h3 rfl
              have e2 := cell_of (i := 2) h3 rfl
              have e3 := cell_of (i := 3) h3 rfl
              exact bodyPost_ret (v := .tuple #[.agg #[(.int .i64 0), (.string { data := #[] }), (.int .i64 0), (.int .i64 0)], .int .i64 2]) (by simp [results, Tryz.f49, go_sem, e0, e1, e2, e3]) rfl ⟨(by rw [← HR.out, if_neg HNB.out, if_pos (HBIG.out hbig)]; rfl), Below.trans (HE3).out (h4 _ (Nat.le_refl _))⟩
            · have HSV := Lib.hid (HSML.out (by omega))
              obtain ⟨nv, hnv⟩ : ∃ v, satV 0 T = v := ⟨_, rfl⟩
              have HNV := Lib.hid hnv
              rw [hnv] at hbig ⊢
              clear hnv
              go_wp2
              obtain ⟨W', hW', h3, h4, h5⟩ := put4 (HB3).out rfl (.int .i64 2) (.string (sB ((s.take k).drop a))) (.int .i64 nv) (.int .i64 (a : Int))
              rw [hW']
              have e0 := cell_of (i := 0) h3 rfl
              have e1 := cell_of (i := 1) h3 rfl
              have e2 := cell_of (i := 2) h3 rfl
              have e3 := cell_of (i := 3) h3 rfl
              exact bodyPost_ret (v := .tuple #[.agg #[(.int .i64 2), (.string (sB ((s.take k).drop a))), (.int .i64 nv), (.int .i64 (a : Int))], .int .i64 0]) (by simp [results, Tryz.f49, go_sem, e0, e1, e2, e3]) rfl ⟨(by rw [← HR.out, if_neg HNB.out, if_neg (by have h9 := HSV.out.1; omega), ← HSV.out.2, HNV.out, HT.out]), Below.trans (HE3).out (h4 _ (Nat.le_refl _))⟩
set_option maxRecDepth 100000 in
set_option maxHeartbeats 8000000 in
theorem rfOneS_any (s : List UInt8) (a : Nat) (w : World) (hs : s.length ≤ 100000) (h : a < s.length) (hl : letB s[a] = false) (hd : digB s[a] = false) :
    Gives Tryz.prog 49 #[sV s, .int .i64 (a : Int)] w (.tuple #[TV (oneT (s.drop a) (a : Int)).1, .int .i64 (oneT (s.drop a) (a : Int)).2]) := by
  unfold Gives
  have hsz := sB_size s
  have hqa0 : a < (sB s).size := by omega
  have KL := Lib.hid (fun W => (show Gives Tryz.prog 74 #[.int .u8 ((s[a]'h).toNat : Int)] W (.bool false) from by rw [← hl]; exact rfLetter_any _ W))
  have KD := Lib.hid (fun W => (show Gives Tryz.prog 76 #[.int .u8 ((s[a]'h).toNat : Int)] W (.bool false) from by rw [← hd]; exact rfDigit_any _ W))
  have hR0 := oneT_sign h hl hd (a : Int)
  have hle := sgLen_le (s.drop a)
  have KS := Lib.hid (fun W => rfSign_any (s.drop a) (by rw [List.length_drop]; omega) W)
  rw [List.length_drop] at hle
  have HT := Lib.hid (sub_take s a (sgLen (s.drop a)))
  generalize sgLen (s.drop a) = n at *
  generalize (s.drop a).take n = T at *
  generalize oneT (s.drop a) (a : Int) = R at *
  have HR := Lib.hid hR0.symm
  clear hl hd hR0
  go_enter Tryz.func49, Tryz.ntmps49
  go_wp2_with fail
  refine (KL.out _).mono ?_
  intro w1 hE
  obtain ⟨hb, hE1⟩ := kept_new hE
  have HB1 := Lib.hid hb
  have HE1 := Lib.hid hE1
  clear hE hE1
  have d0 := cell_of (i := 0) hb rfl
  have d1 := cell_of (i := 1) hb rfl
  have d2 := cell_of (i := 2) hb rfl
  have d3 := cell_of (i := 3) hb rfl
  have f0 : ∀ i, w1.frozen? ⟨w.heap.size, i, none⟩ = false := fun i => free_of hb
  clear hb
  go_wp2_with fail
  refine (KD.out _).mono ?_
  intro w2 hE
  have hb := (hE.block _ (lt_of_block HB1.out)).trans HB1.out
  have HB2 := Lib.hid hb
  have HE2 := Lib.hid (Ext.trans HE1.out hE)
  clear hE
  clear d0 d1 d2 d3 f0
  have d0 := cell_of (i := 0) hb rfl
  have d1 := cell_of (i := 1) hb rfl
  have d2 := cell_of (i := 2) hb rfl
  have d3 := cell_of (i := 3) hb rfl
  have f0 : ∀ i, w2.frozen? ⟨w.heap.size, i, none⟩ = false := fun i => free_of hb
  clear hb
  go_wp2_with fail
  refine (KS.out _).mono ?_
  intro w3 hE
  have hb := (hE.block _ (lt_of_block HB2.out)).trans HB2.out
  have HB3 := Lib.hid hb
  have HE3 := Lib.hid (Ext.trans HE2.out hE)
  clear hE
  clear d0 d1 d2 d3 f0
  have d0 := cell_of (i := 0) hb rfl
  have d1 := cell_of (i := 1) hb rfl
  have d2 := cell_of (i := 2) hb rfl
  have d3 := cell_of (i := 3) hb rfl
  have f0 : ∀ i, w3.frozen? ⟨w.heap.size, i, none⟩ = false := fun i => free_of hb
  clear hb
  by_cases hn : n = 0
  · have hn2 : ((n : Int) == 0) = true := by simpa using (show (n : Int) = 0 by omega)
    go_wp2
    obtain ⟨W', hW', h3, h4, h5⟩ := put4 (HB3).out rfl (.int .i64 0) (.string { data := #[] }) (.int .i64 0) (.int .i64 0)
    rw [hW']
    have e0 := cell_of (i := 0) h3 rfl
    have e1 := cell_of (i := 1) h3 rfl
    have e2 := cell_of (i := 2) h3 rfl
    have e3 := cell_of (i := 3) h3 rfl
    exact bodyPost_ret (v := .tuple #[.agg #[(.int .i64 0), (.string { data := #[] }), (.int .i64 0), (.int .i64 0)], .int .i64 3]) (by simp [results, Tryz.f49, go_sem, e0, e1, e2, e3]) rfl ⟨(by rw [← HR.out, if_pos hn]; rfl), Below.trans (HE3).out (h4 _ (Nat.le_refl _))⟩
  · have hn2 : ((n : Int) == 0) = false := by simpa using (show ¬ (n : Int) = 0 by omega)
    go_wp2
    obtain ⟨W', hW', h3, h4, h5⟩ := put4 (HB3).out rfl (.int .i64 3) (.string (sB ((s.take (a + n)).drop a))) (.int .i64 0) (.int .i64 (a : Int))
    rw [hW']
    have e0 := cell_of (i := 0) h3 rfl
    have e1 := cell_of (i := 1) h3 rfl
    have e2 := cell_of (i := 2) h3 rfl
    have e3 := cell_of (i := 3) h3 rfl
    exact bodyPost_ret (v := .tuple #[.agg #[(.int .i64 3), (.string (sB ((s.take (a + n)).drop a))), (.int .i64 0), (.int .i64 (a : Int))], .int .i64 0]) (by simp [results, Tryz.f49, go_sem, e0, e1, e2, e3]) rfl ⟨(by rw [← HR.out, if_neg hn, HT.out]), Below.trans (HE3).out (h4 _ (Nat.le_refl _))⟩
theorem rfOne_any (s : List UInt8) (a : Nat) (w : World) (hs : s.length ≤ 100000) (h : a < s.length) :
    Gives Tryz.prog 49 #[sV s, .int .i64 (a : Int)] w (.tuple #[TV (oneT (s.drop a) (a : Int)).1, .int .i64 (oneT (s.drop a) (a : Int)).2]) := by
  cases hl : letB s[a] with
  | true => exact rfOneN_any s a w hs h hl
  | false =>
    cases hd : digB s[a] with
    | true => exact rfOneD_any s a w hs h hl hd
    | false => exact rfOneS_any s a w hs h hl hd
end Go.Proofs.YtmokejjndkibhaaGreatDoor

namespace Go.Proofs.YtmokejjndkibhaaGreatDoor
open Go.RowKit
set_option linter.unusedVariables false
set_option linter.unusedSimpArgs false

structure AtJ (l : List Oper) (R : World → World → Prop) (Φ : Nat → (Nat → Value) → World → Prop) (J : Array Bool → World → Prop) (a : Act) (w : World) (i : Nat) (o : Oper) (listed : Array Bool) (a' : Act) (W : World) : Prop extends AtG l R Φ a w i o a' W where
  jnv : J listed W
  nl : listed.getD i false = false
  lsz : listed.size = l.length
  lanc : ∀ k, ancB l l.length i k = true → listed.getD k false = true
structure InvJ (l : List Oper) (R : World → World → Prop) (Φ : Nat → (Nat → Value) → World → Prop) (J : Array Bool → World → Prop) (a : Act) (w : World) (listed : Array Bool) (a' : Act) (W : World) : Prop extends InvG l R Φ a w listed a' W where
  jnv : J listed W
def GoesJ (P : Program) (l : List Oper) (R : World → World → Prop) (Φ : Nat → (Nat → Value) → World → Prop) (J : Array Bool → World → Prop) (i : Nat) (o : Oper) (listed : Array Bool) (a' : Act) (W : World) (Q : Exit → Act → World → Prop) : Prop :=
  if Region.wanted o (yielded l.toArray a'.tmps) then
    o.wp P a' W (fun a2 W2 => ∃ v, a2 = a'.put o.dst v ∧ R W W2 ∧ J (listed.setIfInBounds i true) W2 ∧ ∀ s : Nat → Value, (o.dst.isSome = true → s i = v) → (∀ k, k ≠ i → ancB l l.length i k = true → s k = sv l a' k) → Φ i s W2) Q
  else R W W ∧ J (listed.setIfInBounds i true) W ∧ ∀ s : Nat → Value, (o.dst.isSome = true → s i = undef) → (∀ k, k ≠ i → ancB l l.length i k = true → s k = sv l a' k) → Φ i s W
/-- an operation of which GoesG is known, with the invariant in the relation -/
theorem GoesJ.of {P : Program} {l : List Oper} {R : World → World → Prop} {Φ : Nat → (Nat → Value) → World → Prop} {J : Array Bool → World → Prop} {i : Nat} {o : Oper} {listed : Array Bool} {a' : Act} {W : World} {Q : Exit → Act → World → Prop} (h : GoesG P l (fun A B => R A B ∧ J (listed.setIfInBounds i true) B) Φ i o a' W Q) : GoesJ P l R Φ J i o listed a' W Q := by
  unfold GoesJ
  unfold GoesG at h
  split
  · rename_i hw
    rw [if_pos hw] at h
    exact Oper.wp_mono (fun a2 W2 ⟨v, e, hR, hv⟩ => ⟨v, e, hR.1, hR.2, hv⟩) h
  · rename_i hw
    rw [if_neg hw] at h
    exact ⟨h.1.1, h.1.2, h.2⟩

theorem wp_region_tailj {P : Program} {id : Nat} {Q : Exit → Act → World → Prop} {a : Act} {w : World} {l1 l2 : List Oper} (hm : P.follows .mixedOrders = true)
    (R : World → World → Prop) (hRr : ∀ W, R W W) (hR0 : ∀ W : World, R W { W with drawn := W.drawn + 1 }) (hRt : ∀ {A B C}, R A B → R B C → R A C)
    (Φ : Nat → (Nat → Value) → World → Prop) (J : Array Bool → World → Prop) (hJ0 : J (Array.replicate (l1 ++ l2).length false) { w with drawn := w.drawn + 1 }) (D : Nat → List Nat) (hst : ∀ j s s' W W', Φ j s W → (∀ k ∈ D j, s' k = s k) → R W W' → Φ j s' W')
    (hback : backB (l1 ++ l2) = true) (hun : uniqB (l1 ++ l2) = true) (hreads : readsB (l1 ++ l2) D = true) (N : Nat) (hN : a.tmps.size = N) (hinB : (((l1 ++ l2).filterMap (·.dst)).all fun d => decide (d < N)) = true)
    (htail : tailB (l1 ++ l2) l1.length = true)
    (hstep : ∀ (i : Nat) o, l1[i]? = some o → ∀ listed a' W, AtJ (l1 ++ l2) R Φ J a w i o listed a' W → GoesJ P (l1 ++ l2) R Φ J i o listed a' W Q)
    (hend : ∀ (vs : List Value) (listed : Array Bool) W, vs.length = l1.length → R w W → J listed W → (∀ j, j < l1.length → listed.getD j false = true) → (∀ j, j < l1.length → Φ j (fun k => vs.getD k undef) W) → wpList P (l1 ++ l2).toArray Q l2 (putAll l1 vs a) W) :
    (Code.region id (l1 ++ l2).toArray true).wp P Q a w := by
  have hin : ∀ d ∈ (l1 ++ l2).filterMap (·.dst), d < a.tmps.size := fun d hd => by rw [hN]; exact of_decide_eq_true (List.all_eq_true.1 hinB d hd)
  generalize hl : l1 ++ l2 = l at *
  have hl1 : ∀ j, j < l1.length → l1[j]? = l[j]? := fun j hj => by rw [← hl, List.getElem?_append_left hj]
  have hlen : l1.length ≤ l.length := by rw [← hl]; simp
  have hdrop : l2 = l.drop l1.length := by rw [← hl]; simp
  refine wp_region_any hm ?_
  have fin : ∀ (listed : Array Bool) (a' : Act) (W : World), listed.toList.count false = l.length - l1.length → (∀ j, l1.length ≤ j → listed.getD j false = false) → (∀ j, j < l1.length → listed.getD j false = true) → InvJ l R Φ J a w listed a' W →
      wpAny P .any l.toArray Q (l.length - l1.length) listed a' W := by
    intro listed a' W hc hlo hall hI
    refine tail_any hback htail l2 l1.length listed a' W hdrop (Nat.le_refl _) hlen hI.lsize hall hlo ?_
    have e : a' = putAll l1 (l1.map fun o => match o.dst with | none => undef | some d => a'.tmps.getD d undef) a := by
      refine act_eq (by rw [putAll_size]; exact hI.size) (by rw [putAll_defers]; exact hI.defers) ?_
      intro d hlt
      by_cases hm : d ∈ l1.filterMap (·.dst)
      · obtain ⟨o, ho, hod⟩ := List.mem_filterMap.1 hm
        obtain ⟨j, hj⟩ := List.getElem?_of_mem ho
        have hjl : j < l1.length := (List.getElem?_eq_some_iff.1 hj).1
        rw [putAll_self l1 _ a j o d (by simp) hj hod (fun i p hp e => uniqB_spec hun (by rw [← hl1 i (List.getElem?_eq_some_iff.1 hp).1]; exact hp) (by rw [← hl1 j hjl]; exact hj) e hod) (by rw [← hI.size]; exact hlt)]
        rw [List.getD_eq_getElem?_getD, List.getElem?_map, hj]
        simp [hod]
      · rw [putAll_other l1 _ a d (fun o ho e => hm (List.mem_filterMap.2 ⟨o, ho, e⟩))]
        refine hI.old d (fun j oj hj hd => ?_)
        rcases Nat.lt_or_ge j l1.length with h | h
        · exact absurd (List.mem_filterMap.2 ⟨oj, List.mem_of_getElem? (by rw [hl1 j h]; exact hj), hd⟩) hm
        · exact hlo j h
    rw [e]
    refine hend _ listed W (by simp) hI.rel hI.jnv hall (fun j hj => ?_)
    refine hst j _ _ W W (hI.new j (by omega) (hall j hj)) (fun k hk => ?_) (hRr W)
    have hkj : k ≤ j := by
      have h1 := List.all_eq_true.1 (List.all_eq_true.1 hreads j (List.mem_range.2 (by omega))) k hk
      simp only [Bool.or_eq_true, decide_eq_true_eq] at h1
      rcases h1 with h1 | h1
      · omega
      · exact Nat.le_of_lt (anc_back hback _ _ _ h1)
    have hkl : k < l1.length := by omega
    unfold sv
    rw [List.getD_eq_getElem?_getD, List.getElem?_map, hl1 k hkl]
    cases hk : l[k]? with
    | none => rfl
    | some o => cases hod : o.dst <;> simp [hod]
  have main : ∀ (fuel : Nat) (listed : Array Bool) (a' : Act) (W : World), listed.toList.count false = fuel → (∀ j, l1.length ≤ j → listed.getD j false = false) → InvJ l R Φ J a w listed a' W → wpAny P .any l.toArray Q fuel listed a' W := by
    intro fuel
    have cnt : ∀ (listed : Array Bool), listed.size = l.length → (∀ j, l1.length ≤ j → listed.getD j false = false) → (∀ j, j < l1.length → listed.getD j false = true) → listed.toList.count false = l.length - l1.length := by
      intro listed hs hlo hall
      have e : listed.toList = List.replicate l1.length true ++ List.replicate (l.length - l1.length) false := by
        apply List.ext_getElem?
        intro i
        by_cases hi : i < listed.size
        · have hg : ∀ b, listed.getD i false = b → listed.toList[i]? = some b := fun b hb => by
            rw [getD_of_lt hi false true] at hb
            simp only [Array.getD_eq_getD_getElem?, Array.getElem?_eq_getElem hi, Option.getD_some] at hb
            simp [hi, hb]
          by_cases h : i < l1.length
          · rw [hg true (hall i h), List.getElem?_append_left (by simpa using h)]
            simp [h]
          · rw [hg false (hlo i (by omega)), List.getElem?_append_right (by simp; omega), List.getElem?_replicate, if_pos (by rw [List.length_replicate]; omega)]
        · rw [List.getElem?_eq_none (by simpa using hi), List.getElem?_eq_none (by simp; omega)]
      rw [e, List.count_append, List.count_replicate, List.count_replicate]
      simp
    induction fuel with
    | zero =>
      intro listed a' W hc hlo hI
      have hall' : ∀ i, i < l.length → listed.getD i false = true := by
        intro i hi
        have hi' : i < listed.size := by rw [hI.lsize]; exact hi
        cases hb : listed.getD i false with
        | true => rfl
        | false =>
          exfalso
          have : false ∈ listed.toList := by
            simp only [Array.getD_eq_getD_getElem?, Array.getElem?_eq_getElem hi', Option.getD_some] at hb
            rw [← hb]; simp
          have := List.count_pos_iff.2 this
          omega
      have hall : ∀ i, i < l1.length → listed.getD i false = true := fun i hi => hall' i (by omega)
      have hc2 := cnt listed hI.lsize hlo hall
      have := fin listed a' W hc2 hlo hall hI
      rw [show l.length - l1.length = 0 by omega] at this
      exact this
    | succ fuel ih =>
      intro listed a' W hc hlo hI
      by_cases hall : ∀ j, j < l1.length → listed.getD j false = true
      · have hc2 := cnt listed hI.lsize hlo hall
        have := fin listed a' W hc2 hlo hall hI
        rw [show l.length - l1.length = fuel + 1 by omega] at this
        exact this
      · obtain ⟨j0, hj0⟩ := Classical.not_forall.1 hall
        obtain ⟨hj0l, hj0f⟩ := Classical.not_imp.1 hj0
        refine ⟨fun h0 => ?_, fun i hi => ?_⟩
        · exact absurd (all_listed hback hI.lsize h0 j0 (by omega)) hj0f
        · obtain ⟨hl0, o, ho, hwait⟩ := mem_ready.1 hi
          have ho' : l[i]? = some o := by simpa using ho
          have hil : i < l.length := (List.getElem?_eq_some_iff.1 ho').1
          have hil' : i < listed.size := by rw [hI.lsize]; exact hil
          have hlf : listed.getD i false = false := by
            rw [getD_of_lt hil' false true]; exact hl0
          have hanc : ∀ n k, ancB l n i k = true → listed.getD k false = true := by
            intro n k hk
            cases n with
            | zero => simp [ancB] at hk
            | succ n =>
              unfold ancB at hk
              rw [ho'] at hk
              obtain ⟨e, he, hh⟩ := List.any_eq_true.1 hk
              simp only [Bool.and_eq_true, Bool.or_eq_true, decide_eq_true_eq] at hh
              have h1 := hwait e (by simpa using he) hh.1
              rcases hh.2 with h2 | h2
              · rw [← h2]; exact h1
              · exact hI.down.anc n e.on k h1 h2
          have hi1 : i < l1.length := by
            rcases Nat.lt_or_ge i l1.length with h | h
            · exact h
            · exact absurd (hanc _ _ (tailB_spec htail hil h (by omega : j0 < i))) hj0f
          have hAt : AtJ l R Φ J a w i o listed a' W := ⟨⟨hI.rel, hI.size, hI.defers,
            fun d hd => hI.old d (fun j oj hj hdj => by
              have hji := hd j oj hj hdj
              cases hlj : listed.getD j false with
              | false => rfl
              | true =>
                have := hI.down.anc _ j i hlj hji
                rw [hlf] at this; cases this),
            fun j hj ha => hI.new j hj (hanc _ j ha)⟩, hI.jnv, hlf, hI.lsize, fun k hk => hanc _ k hk⟩
          have hG := hstep i o (by rw [hl1 i hi1]; exact ho') listed a' W hAt
          have hnext : ∀ v W2, R W W2 → J (listed.setIfInBounds i true) W2 → (∀ s : Nat → Value, (o.dst.isSome = true → s i = v) → (∀ k, k ≠ i → ancB l l.length i k = true → s k = sv l a' k) → Φ i s W2) → wpAny P .any l.toArray Q fuel (listed.setIfInBounds i true) (a'.put o.dst v) W2 := by
            intro v W2 hR hS hv
            have hin' : ∀ d ∈ l.filterMap (·.dst), d < a'.tmps.size := fun d hd => by rw [hI.size]; exact hin d hd
            have hset : ∀ j, j ≠ i → (listed.setIfInBounds i true).getD j false = listed.getD j false := fun j hj => getD_set_ne false (Ne.symm hj)
            refine ih _ _ _ ?_ (fun j hj => by rw [hset j (by omega)]; exact hlo j hj) ?_
            · have := count_set listed.toList i (by simp [hil']; simpa [Array.getD_eq_getD_getElem?, hil'] using hlf)
              rw [Array.toList_setIfInBounds]; omega
            · refine ⟨⟨hRt hI.rel hR, by simpa using hI.lsize, by rw [put_size]; exact hI.size, by rw [put_defers]; exact hI.defers, ?_, ?_, ?_⟩, ?_⟩
              · intro d hd
                have hne : o.dst ≠ some d := fun e => by
                  have := hd i o ho' e
                  simp [Array.getD_eq_getD_getElem?, hil'] at this
                rw [put_other hne]
                refine hI.old d (fun j oj hj hdj => ?_)
                by_cases hji : j = i
                · subst hji; exact hlf
                · have := hd j oj hj hdj
                  rwa [hset j hji] at this
              · intro j hj hlj
                by_cases hji : j = i
                · subst hji
                  exact hv _ (fun hd => sv_put_self ho' hin' hd) (fun k hk _ => sv_put_other hun ho' hk)
                · rw [hset j hji] at hlj
                  refine hst j _ _ _ _ (hI.new j hj hlj) (fun k hk => sv_put_other hun ho' ?_) hR
                  rintro rfl
                  have h1 := List.all_eq_true.1 (List.all_eq_true.1 hreads j (List.mem_range.2 hj)) k hk
                  simp only [Bool.or_eq_true, decide_eq_true_eq] at h1
                  rcases h1 with h1 | h1
                  · exact hji h1.symm
                  · have := hI.down.anc _ j k hlj h1
                    rw [hlf] at this; cases this
              · intro j oj hj hlj e he hb
                by_cases hji : j = i
                · subst hji
                  rw [ho'] at hj; cases hj
                  exact getD_set_true (hwait e he hb)
                · rw [hset j hji] at hlj
                  exact getD_set_true (hI.down j oj hj hlj e he hb)
              · exact hS
          unfold wpOp
          rw [show l.toArray[i]? = some o by simpa using ho']
          unfold GoesJ at hG
          by_cases hwant : Region.wanted o (yielded l.toArray a'.tmps) = true
          · rw [if_pos hwant] at hG
            simp only [hwant, if_true]
            exact .inl (Oper.wp_mono (fun a2 W2 ⟨v, e, hR, hS, hv⟩ => by rw [e]; exact hnext v W2 hR hS hv) hG)
          · rw [if_neg hwant] at hG
            simp only [hwant]
            exact hnext undef W hG.1 hG.2.1 hG.2.2
  have h0 := main l.length (Array.replicate l.length false) a { w with drawn := w.drawn + 1 } (by simp) (fun j _ => getD_false _ _)
    ⟨⟨hR0 w, by simp, rfl, rfl, fun _ _ => rfl, (fun j _ h => by rw [getD_false] at h; cases h), (fun j oj _ h => by rw [getD_false] at h; cases h)⟩, hJ0⟩
  simpa using h0

end Go.Proofs.YtmokejjndkibhaaGreatDoor

namespace Go.Proofs.YtmokejjndkibhaaGreatDoor
open Go.RowKit Go.Shelf Ex
set_option linter.unusedVariables false
set_option linter.unusedSimpArgs false

theorem GoesG.appendT {P : Program} {l : List Oper} {R : World → World → Prop} {Φ : Nat → (Nat → Value) → World → Prop} {i : Nat} {o : Oper} {a' : Act} {W W' : World} {Q : Exit → Act → World → Prop} (hg : o.guard = none) (s x : Operand) (t : TypeId) (ho : o.op = .call { callee := .builtin .append, args := #[s, x], argTypes := #[t, t] })
    (v v' sl : Value) (hs : a'.eval s = v) (hx : a'.eval x = sl) (hr : (Builtin.append_ #[t, t] o.type #[v, sl]).run P W = .ok v' W') (hR : R W W')
    (hΦ : ∀ s : Nat → Value, (o.dst.isSome = true → s i = v') → (∀ k, k ≠ i → ancB l l.length i k = true → s k = sv l a' k) → Φ i s W') : GoesG P l R Φ i o a' W Q :=
  GoesG.value v' hg (by simp only [execOp, ho, resolve, invoke, builtin, Sem.run_bind, Sem.run_pure, Result.andThen_ok, List.map_toArray, List.map_cons, List.map_nil, hs, hx, hr]) hR hΦ
theorem RowT.empty (w : World) (base : Nat) (hb : base ≤ w.heap.size) : RowT base (.slice (some ⟨w.heap.size, 0, none⟩) 0 0) [] (w.alloc (.cells #[] 36)) :=
  World.ownsRow_lit w #[] 0 hb (by unfold maxLen; omega) (by simp)
/-- a token appended to a row of one's own, as a run -/
theorem appT_run (base : Nat) (v : Value) (l : List Tk) (W : World) (h : RowT base v l W) (r : Tk) (g : Nat) (cs : Array Value) (hg : W.heap[g]? = some (.cells cs 36 (0, 0))) (hcs : cs.toList = cTk r) (ty : TypeId) (hlen : l.length ≤ 1000000000) (hbase : base ≤ W.heap.size) :
    ∃ v' w', (Builtin.append_ #[31, 31] ty #[v, .slice (some ⟨g, 0, none⟩) 1 1]).run Tryz.prog W = .ok v' w' ∧ RowT base v' (l ++ [r]) w' ∧ Below base W w' ∧ ∀ b, b < W.heap.size → v.ownBlock ≠ some b → w'.heap[b]? = W.heap[b]? := by
  obtain ⟨i0, hi, hz0, hz1, hz2⟩ := info_parts infoTk
  obtain ⟨v', w', h1, h2, h3, _⟩ := run_append_own_wide W base 31 ty 36 i0 (.agg #[.int .i64 0, sV [], .int .i64 0, .int .i64 0]) 4 40 Tryz.underlying31 hi hz0 hz1 hz2 rfl (by decide) v l.length (l.flatMap cTk) h ⟨g, 0, none⟩ 1 1 (cTk r) rfl (fun j u hu => by
      have e : (⟨g, 0, none⟩ : Addr).add j = ⟨g, j, none⟩ := by unfold Addr.add; split <;> simp_all
      rw [e]
      refine cell_of hg ?_
      rw [← hcs] at hu
      simpa using hu) (fun u hu => by
      simp only [cTk, List.mem_cons, List.not_mem_nil, or_false] at hu
      rcases hu with rfl | rfl | rfl | rfl <;> rfl) (by unfold maxLen; omega) (by omega) hbase
  refine ⟨v', w', h1, ?_, ?_, fun b hb1 hb2 => h3.block b hb1 (fun e => hb2 e.symm)⟩
  · unfold RowT
    simpa [List.flatMap_append] using h2
  · exact (Below.refl base W).grown h3 hbase (fun k e => (World.ownsRow.lt h k e).1)
end Go.Proofs.YtmokejjndkibhaaGreatDoor

namespace Go.Proofs.YtmokejjndkibhaaGreatDoor
open Go.RowKit Go.Shelf Ex
set_option linter.unusedVariables false
set_option linter.unusedSimpArgs false

/-- the world is W0 until operation 2, W1 until operation 3, W2 from then on -/
def J3 (W0 W1 W2 : World) (listed : Array Bool) (W : World) : Prop := (listed.getD 3 false = true → listed.getD 2 false = true) ∧ W = if listed.getD 3 false = true then W2 else if listed.getD 2 false = true then W1 else W0
theorem getD_setN {listed : Array Bool} {i j : Nat} (h : i ≠ j) : (listed.setIfInBounds i true).getD j false = listed.getD j false := by
  simp [Array.getD_eq_getD_getElem?, Array.getElem?_setIfInBounds, h]
theorem getD_setS {listed : Array Bool} {i : Nat} (h : i < listed.size) : (listed.setIfInBounds i true).getD i false = true := by
  simp [Array.getD_eq_getD_getElem?, h]
theorem J3.init (W0 W1 W2 : World) (n : Nat) : J3 W0 W1 W2 (Array.replicate n false) W0 := by
  have h : ∀ i, (Array.replicate n false).getD i false = false := fun i => by
    simp [Array.getD_eq_getD_getElem?, Array.getElem?_replicate]
    split <;> rfl
  unfold J3
  rw [h, h]
  exact ⟨(fun e => by cases e), by simp⟩
theorem J3.other {W0 W1 W2 W : World} {listed : Array Bool} {i : Nat} (h : J3 W0 W1 W2 listed W) (h2 : i ≠ 2) (h3 : i ≠ 3) : J3 W0 W1 W2 (listed.setIfInBounds i true) W := by
  unfold J3 at h ⊢
  rw [getD_setN h2, getD_setN h3]; exact h
theorem J3.two {W0 W1 W2 W : World} {listed : Array Bool} (h : J3 W0 W1 W2 listed W) (h2 : listed.getD 2 false = false) : W = W0 := by
  obtain ⟨a, b⟩ := h
  rw [h2] at a b
  have h3 : listed.getD 3 false = false := by
    cases e : listed.getD 3 false with
    | false => rfl
    | true => exact absurd (a e) (by decide)
  rw [h3] at b
  simpa using b
theorem J3.two' {W0 W1 W2 W : World} {listed : Array Bool} (h : J3 W0 W1 W2 listed W) (hs : 2 < listed.size) (h2 : listed.getD 2 false = false) : J3 W0 W1 W2 (listed.setIfInBounds 2 true) W1 := by
  have a := h.1
  have h3 : listed.getD 3 false = false := by
    cases e : listed.getD 3 false with
    | false => rfl
    | true => have := a e; rw [h2] at this; cases this
  unfold J3
  rw [getD_setS hs, getD_setN (by decide), h3]
  exact ⟨fun _ => rfl, by simp⟩
theorem J3.three {W0 W1 W2 W : World} {listed : Array Bool} (h : J3 W0 W1 W2 listed W) (h2 : listed.getD 2 false = true) (h3 : listed.getD 3 false = false) : W = W1 := by
  have b := h.2
  rw [h2, h3] at b
  simpa using b
theorem J3.three' {W0 W1 W2 W : World} {listed : Array Bool} (h : J3 W0 W1 W2 listed W) (hs : 3 < listed.size) (h2 : listed.getD 2 false = true) : J3 W0 W1 W2 (listed.setIfInBounds 3 true) W2 := by
  unfold J3
  rw [getD_setS hs, getD_setN (by decide), h2]
  exact ⟨fun _ => rfl, by simp⟩
theorem J3.cases {W0 W1 W2 W : World} {listed : Array Bool} (h : J3 W0 W1 W2 listed W) : W = W0 ∨ W = W1 ∨ W = W2 := by
  have b := h.2
  split at b
  · exact .inr (.inr b)
  · split at b
    · exact .inr (.inl b)
    · exact .inl b
theorem J3.fin {W0 W1 W2 W : World} {listed : Array Bool} (h : J3 W0 W1 W2 listed W) (h3 : listed.getD 3 false = true) : W = W2 := by
  have b := h.2
  rw [h3] at b
  simpa using b
theorem toksF_blk {s : List UInt8} {f a b : Nat} {acc : List Tk} (h : a + skipB false (s.drop a) = b + skipB false (s.drop b)) : toksF s (f + 1) a acc = toksF s (f + 1) b acc := by
  simp only [toksF, h]
set_option maxRecDepth 100000 in
set_option maxHeartbeats 16000000 in
theorem rfTokens_any (s : List UInt8) (w : World) (hs : s.length ≤ 100000) :
    Calls Tryz.prog 21 #[sV s] w fun e w' => ∃ v, e = .returned (.tuple #[v, .int .i64 (toksR s).2.1, .int .i64 (toksR s).2.2]) ∧ RowT w.heap.size v (toksR s).1 w' ∧ Ext w w' := by
  have hsz := sB_size s
  obtain ⟨R, hR⟩ : ∃ R, toksR s = R := ⟨_, rfl⟩
  rw [hR]
  have HNIL := Lib.hid (fun (W : World) (hW : Ext w W) => RowT.empty W w.heap.size hW.size)
  by_cases hbig : 4000 < s.length
  · have HR := Lib.hid (show R = ([], 0, 4) by rw [← hR]; unfold toksR; rw [if_pos hbig])
    clear hR
    go_enter Tryz.func21, Tryz.ntmps21
    go_wp2
    exact bodyPost_ret (v := .tuple #[.slice (some ⟨w.heap.size, 0, none⟩) 0 0, .int .i64 0, .int .i64 4]) (by simp [results, Tryz.f21, go_sem]) rfl ⟨_, by rw [HR.out], by rw [HR.out]; exact HNIL.out w (Below.refl _ _), ext_alloc _ _⟩
  · have HR := Lib.hid (show toksF s (s.length + 1) 0 [] = R by rw [← hR]; unfold toksR; rw [if_neg hbig])
    clear hR
    have HROW0 := Lib.hid (HNIL.out w (Below.refl _ _))
    go_enter Tryz.func21, Tryz.ntmps21
    go_wp2
    go_loopw [5, 6] (fun v5 v6 wr => ∃ (a f : Nat) (acc : List Tk) (vv : Value), vv = v5 ∧ v6 = .int .i64 (a : Int) ∧ a ≤ s.length ∧ s.length + 1 ≤ f + a ∧ acc.length ≤ a ∧ toksF s f a acc = R ∧ RowT w.heap.size vv acc wr ∧ Ext w wr) (fun _ v6 _ => s.length - (intOf v6).toNat)
    case atStart => exact ⟨0, s.length + 1, [], _, rfl, rfl, Nat.zero_le _, by omega, Nat.le_refl _, HR.out, HROW0.out, ext_alloc _ _⟩
    case round =>
      obtain ⟨a, f, acc, vv, rfl, rfl, ha, hf, hac, hR, hrow, hE⟩ := hrel
      have HROW := Lib.hid hrow
      have HE := Lib.hid hE
      obtain ⟨f, rfl⟩ : ∃ f', f = f' + 1 := ⟨f - 1, by omega⟩
      have HRR := Lib.hid hR
      have HF := Lib.hid hf
      have HAC := Lib.hid hac
      have hac2 : acc.length ≤ s.length := by omega
      have hwz : w.heap.size ≤ wr.heap.size := hE.size
      clear hrow hE hR hf hac
      by_cases hlt : a < s.length
      · have hq : a < (sB s).size := by omega
        have HSK := Lib.hid (fun h => blk_skip (s := s) hlt h)
        have HNO := Lib.hid (fun h1 h2 h3 h4 => blk_none (s := s) hlt h1 h2 h3 h4)
        have HCM := Lib.hid (fun h k h1 h2 h3 h4 => blk_comment (s := s) (k := k) hlt h h1 h2 h3 h4)
        obtain ⟨c, hc⟩ : ∃ c : Nat, (s[a]'hlt).toNat = c := ⟨_, rfl⟩
        have HC := Lib.hid hc
        rw [hc] at HSK HNO HCM
        by_cases hb : c = 32 ∨ c = 9 ∨ c = 10
        · have HNX := Lib.hid (show toksF s (f + 1) (a + 1) acc = R from by rw [← toksF_blk (HSK.out hb)]; exact HRR.out)
          clear HSK HNO HCM
          rcases hb with rfl | rfl | rfl
          · go_wp2
            go_roundw
            case rel => exact ⟨a + 1, f + 1, acc, vv, rfl, by go_num, by omega, by have := HF.out; omega, by have := HAC.out; omega, HNX.out, HROW.out, HE.out⟩
            case measure => simp [intOf]; omega
          · go_wp2
            go_roundw
            case rel => exact ⟨a + 1, f + 1, acc, vv, rfl, by go_num, by omega, by have := HF.out; omega, by have := HAC.out; omega, HNX.out, HROW.out, HE.out⟩
            case measure => simp [intOf]; omega
          · go_wp2
            go_roundw
            case rel => exact ⟨a + 1, f + 1, acc, vv, rfl, by go_num, by omega, by have := HF.out; omega, by have := HAC.out; omega, HNX.out, HROW.out, HE.out⟩
            case measure => simp [intOf]; omega
        · have c1 : ((c : Int) == 32) = false := by simpa using (show ¬ (c : Int) = 32 by omega)
          have c2 : ((c : Int) == 9) = false := by simpa using (show ¬ (c : Int) = 9 by omega)
          have c3 : ((c : Int) == 10) = false := by simpa using (show ¬ (c : Int) = 10 by omega)
          by_cases h35 : c = 35
          · subst h35
            clear HSK HNO hb c1 c2 c3
            go_wp2
            go_loopw [6] (fun v6 wx => ∃ k : Nat, a ≤ k ∧ k ≤ s.length ∧ v6 = .int .i64 (k : Int) ∧ (∀ j (hj : j < s.length), a ≤ j → j < k → (s[j]).toNat ≠ 10) ∧ wx = wr) (fun v6 _ => s.length - (intOf v6).toNat)
            case atStart => exact ⟨a, Nat.le_refl _, by omega, rfl, fun j _ h1 h2 => by omega, rfl⟩
            case round =>
              obtain ⟨k, hk1, hk2, rfl, hno, rfl⟩ := hrel
              have HNN := Lib.hid hno
              clear hno
              by_cases hkl : k < s.length
              · have hqk : k < (sB s).size := by omega
                obtain ⟨d, hd⟩ : ∃ d : Nat, (s[k]'hkl).toNat = d := ⟨_, rfl⟩
                have HD := Lib.hid hd
                by_cases h10 : d = 10
                · have HK := Lib.hid (show a + skipB false (s.drop a) = k + skipB false (s.drop k) from HCM.out (by first | rfl | trivial) k hk1 hk2 HNN.out (fun _ => by rw [HD.out]; exact h10))
                  have hak : a ≠ k := by rintro rfl; have h1 := HC.out; have h2 := HD.out; omega
                  subst h10
                  have HNX := Lib.hid (show toksF s (f + 1) k acc = R from by rw [← toksF_blk HK.out]; exact HRR.out)
                  go_wp2
                  go_roundw
                  case rel => exact ⟨k, f + 1, acc, vv, rfl, rfl, hk2, by have := HF.out; omega, by have := HAC.out; omega, HNX.out, HROW.out, HE.out⟩
                  case measure => simp [intOf]; omega
                · have d1 : ((d : Int) != 10) = true := by simpa using (show ¬ (d : Int) = 10 by omega)
                  have d2 : ((d : Int) == 10) = false := by simpa using (show ¬ (d : Int) = 10 by omega)
                  have HNM := Lib.hid (show ∀ j (hj : j < s.length), a ≤ j → j < k + 1 → (s[j]).toNat ≠ 10 from fun j hj h1 h2 => by
                    by_cases e : j = k
                    · subst e; rw [HD.out]; exact h10
                    · exact HNN.out j hj h1 (by omega))
                  clear h10
                  go_wp2
                  go_roundw
                  case rel => exact ⟨k + 1, by omega, by omega, by go_num, HNM.out, by first | rfl | trivial⟩
                  case measure => simp [intOf]; omega
              · obtain rfl : k = s.length := by omega
                have HK := Lib.hid (show a + skipB false (s.drop a) = s.length + skipB false (s.drop s.length) from HCM.out (by first | rfl | trivial) s.length hk1 hk2 HNN.out (fun h => by omega))
                have HNX := Lib.hid (show toksF s (f + 1) s.length acc = R from by rw [← toksF_blk HK.out]; exact HRR.out)
                go_wp2
                go_roundw
                case rel => exact ⟨s.length, f + 1, acc, vv, rfl, rfl, hk2, by have := HF.out; omega, by have := HAC.out; omega, HNX.out, HROW.out, HE.out⟩
                case measure => simp [intOf]; omega
          · have c4 : ((c : Int) == 35) = false := by simpa using (show ¬ (c : Int) = 35 by omega)
            have hb0 : blk s a = a := by unfold blk; rw [HNO.out (by omega) (by omega) (by omega) h35]; rfl
            obtain ⟨⟨T, E⟩, hT⟩ : ∃ T, oneT (s.drop a) (a : Int) = T := ⟨_, rfl⟩
            have HBAD := Lib.hid (fun he : E ≠ 0 => (show R = ([], (a : Int), E) by rw [← HRR.out, toksF_bad (by rw [hb0]; omega) (by rw [hb0]; exact hT) he, hb0]))
            have HGO := Lib.hid (fun he : E = 0 => (show toksF s f (a + T.text.length) (acc ++ [T]) = R by rw [← HRR.out, toksF_go (by rw [hb0]; omega) (by rw [hb0]; exact hT) he, hb0]))
            have HTX := Lib.hid (fun he : E = 0 => (show 1 ≤ T.text.length ∧ a + T.text.length ≤ s.length by
              subst he
              have := oneT_at hlt hT
              exact ⟨this.1, this.2.1⟩))
            have K1 := Lib.hid (fun W => (by have := rfOne_any s a W hs hlt; rw [hT] at this; exact this : Gives Tryz.prog 49 #[sV s, .int .i64 (a : Int)] W (.tuple #[TV T, .int .i64 E])))
            clear hT hb0 HSK HNO HCM hb h35
            obtain ⟨tk, tx, tv, tp⟩ := T
            dsimp only at HGO HTX
            go_wp2_with fail
            refine (K1.out _).mono ?_
            intro w3 hE
            have HE3 := Lib.hid (Ext.trans HE.out hE)
            have HROW3 := Lib.hid (HROW.out.ext hE)
            clear hE
            have HX := Lib.hid (ext_alloc w3 (.cells #[.int .i64 tk, sV tx, .int .i64 tv, .int .i64 tp] tTk))
            by_cases hE0 : E = 0
            · subst hE0
              obtain ⟨hx1, hx2⟩ := HTX.out rfl
              have HG := Lib.hid (HGO.out rfl)
              have HX2 := Lib.hid hx2
              go_upto_region 14 with fail
              obtain ⟨X4, hX4⟩ : ∃ X4, w3.alloc (.cells #[.int .i64 tk, sV tx, .int .i64 tv, .int .i64 tp] 36) = X4 := ⟨_, rfl⟩
              rw [hX4]
              have hb4 := alloc_here w3 (.cells #[.int .i64 tk, sV tx, .int .i64 tv, .int .i64 tp] 36)
              rw [hX4] at hb4
              have HB4 := Lib.hid hb4
              have hE34 : Ext w3 X4 := by rw [← hX4]; exact ext_alloc _ _
              have HE4 := Lib.hid (Ext.trans HE3.out hE34)
              have HROW4 := Lib.hid (HROW3.out.ext hE34)
              have HOB := Lib.hid (show Value.ownBlock vv ≠ some w3.heap.size from fun e => by have := (World.ownsRow.lt HROW3.out _ e).2; omega)
              clear hX4 hb4 hE34
              generalize w3.heap.size = tb at *
              obtain ⟨W0, hW0⟩ : ∃ W0 : World, ({ X4 with drawn := X4.drawn + 1 } : World) = W0 := ⟨_, rfl⟩
              have hrow0 : RowT w.heap.size vv acc W0 := by rw [← hW0]; exact (HROW4.out.ext (show Ext X4 { X4 with drawn := X4.drawn + 1 } from ⟨rfl, rfl, rfl, Nat.le_refl _, fun _ _ => rfl⟩))
              have hE0 : Ext w W0 := by rw [← hW0]; exact Ext.trans HE4.out (show Ext X4 { X4 with drawn := X4.drawn + 1 } from ⟨rfl, rfl, rfl, Nat.le_refl _, fun _ _ => rfl⟩)
              have hb0 : W0.heap[tb]? = some (.cells #[.int .i64 tk, sV tx, .int .i64 tv, .int .i64 tp] 36 (0, 0)) := by rw [← hW0]; exact HB4.out
              obtain ⟨W1, hW1⟩ : ∃ W1, W0.alloc (.cells #[.int .i64 tk, sV tx, .int .i64 tv, .int .i64 tp] 36) = W1 := ⟨_, rfl⟩
              have hE1 : Ext W0 W1 := by rw [← hW1]; exact ext_alloc _ _
              have hk1 := alloc_here W0 (.cells #[.int .i64 tk, sV tx, .int .i64 tv, .int .i64 tp] 36)
              rw [hW1] at hk1
              have hb1 := (hE1.below.block _ (lt_of_block hb0)).trans hb0
              have hrow1 := hrow0.ext hE1
              have htb : vv.ownBlock ≠ some tb := HOB.out
              obtain ⟨v2, W2, hrun, hrow2, hbel2, hkb2⟩ := appT_run w.heap.size vv acc W1 hrow1 ⟨tk, tx, tv, tp⟩ W0.heap.size _ hk1 rfl 31 (by omega) (Nat.le_trans hE0.size hE1.size)
              have hb2 := (hkb2 tb (lt_of_block hb1) htb).trans hb1
              have hcell : ∀ {listed : Array Bool} (W : World), J3 W0 W1 W2 listed W → W.cell? ⟨tb, 0, none⟩ = some (.int .i64 tk) ∧ W.cell? ⟨tb, 1, none⟩ = some (sV tx) ∧ W.cell? ⟨tb, 2, none⟩ = some (.int .i64 tv) ∧ W.cell? ⟨tb, 3, none⟩ = some (.int .i64 tp) := by
                intro listed W hJ
                rcases hJ.cases with rfl | rfl | rfl
                · exact ⟨cell_of hb0 rfl, cell_of hb0 rfl, cell_of hb0 rfl, cell_of hb0 rfl⟩
                · exact ⟨cell_of hb1 rfl, cell_of hb1 rfl, cell_of hb1 rfl, cell_of hb1 rfl⟩
                · exact ⟨cell_of hb2 rfl, cell_of hb2 rfl, cell_of hb2 rfl, cell_of hb2 rfl⟩
              have HROW2 := Lib.hid hrow2
              have HE2 := Lib.hid (show Ext w W2 from Below.trans (Ext.trans hE0 hE1) hbel2)
              refine wp_region_tailj (l1 := [_, _, _, _, _, _, _, _, _, _]) (l2 := [_]) (by kernel_rfl) (fun _ _ => True) (fun _ => trivial) (fun _ => trivial) (fun _ _ => trivial)
                (fun i s W => match i with
                  | 0 => s 0 = vv
                  | 1 => s 1 = .agg #[.int .i64 tk, sV tx, .int .i64 tv, .int .i64 tp]
                  | 2 => s 2 = .slice (some ⟨W0.heap.size, 0, none⟩) 1 1
                  | 3 => s 3 = v2
                  | 4 => s 4 = .int .i64 (a : Int)
                  | 5 => s 5 = .pointer (some ⟨tb, 1, none⟩)
                  | 6 => s 6 = sV tx
                  | 7 => s 7 = .int .i64 (tx.length : Int)
                  | 8 => s 8 = .int .i64 ((a : Int) + (tx.length : Int))
                  | 9 => s 9 = v2
                  | _ => True)
                (J3 W0 W1 W2) (by rw [hW0]; exact J3.init _ _ _ _) (fun i => [i])
                (by
                  intro i s s' W W' h hs _
                  have hs := hs i (by simp)
                  match i, h, hs with
                  | 0, h, hs => exact hs.trans h
                  | 1, h, hs => exact hs.trans h
                  | 2, h, hs => exact hs.trans h
                  | 3, h, hs => exact hs.trans h
                  | 4, h, hs => exact hs.trans h
                  | 5, h, hs => exact hs.trans h
                  | 6, h, hs => exact hs.trans h
                  | 7, h, hs => exact hs.trans h
                  | 8, h, hs => exact hs.trans h
                  | 9, h, hs => exact hs.trans h
                  | i + 10, h, hs => exact trivial)
                (by kernel_rfl) (by kernel_rfl) (by kernel_rfl) 78 rfl (by kernel_rfl) (by kernel_rfl) ?_ ?_
              · intro i op ho listed a' W hA
                match i, ho with
                | 0, ho =>
                  obtain rfl := Option.some.inj ho
                  have e1 : a'.eval (.tmp 5) = vv := hA.keep 5 (by kernel_rfl)
                  have hx := hcell W hA.jnv
                  obtain ⟨x0, x1, x2, x3⟩ := hx
                  refine GoesJ.of (GoesG.value (vv) rfl ?_ ⟨trivial, hA.jnv.other (by decide) (by decide)⟩ (fun s h1 h2 => h1 rfl))
                  simp only [execOp, e1]
                  simp [go_sem, x0, x1, x2, x3]
                | 1, ho =>
                  obtain rfl := Option.some.inj ho
                  have e1 : a'.eval (.tmp 7) = .pointer (some ⟨tb, 0, none⟩) := hA.keep 7 (by kernel_rfl)
                  have hx := hcell W hA.jnv
                  obtain ⟨x0, x1, x2, x3⟩ := hx
                  refine GoesJ.of (GoesG.value (.agg #[.int .i64 tk, sV tx, .int .i64 tv, .int .i64 tp]) rfl ?_ ⟨trivial, hA.jnv.other (by decide) (by decide)⟩ (fun s h1 h2 => h1 rfl))
                  simp only [execOp, e1]
                  simp [go_sem, x0, x1, x2, x3]
                | 2, ho =>
                  obtain rfl := Option.some.inj ho
                  have e1 : a'.eval (.tmp 64) = .agg #[.int .i64 tk, sV tx, .int .i64 tv, .int .i64 tp] := (sv_dst (l := _) rfl).symm.trans (hA.new 1 (by decide) (by kernel_rfl))
                  have hW := hA.jnv.two hA.nl
                  subst W
                  refine GoesJ.of (GoesG.value (W' := W1) (.slice (some ⟨W0.heap.size, 0, none⟩) 1 1) rfl ?_ ⟨trivial, hA.jnv.two' (by rw [hA.lsz]; decide) hA.nl⟩ (fun s h1 h2 => h1 rfl))
                  rw [← hW1]
                  simp [go_sem] at e1
                  simp [execOp, go_sem, e1]
                | 3, ho =>
                  obtain rfl := Option.some.inj ho
                  have e1 : a'.eval (.tmp 63) = vv := (sv_dst (l := _) rfl).symm.trans (hA.new 0 (by decide) (by kernel_rfl))
                  have e2 : a'.eval (.tmp 65) = .slice (some ⟨W0.heap.size, 0, none⟩) 1 1 := (sv_dst (l := _) rfl).symm.trans (hA.new 2 (by decide) (by kernel_rfl))
                  have hW := hA.jnv.three (hA.lanc 2 (by kernel_rfl)) hA.nl
                  subst W
                  exact GoesJ.of (GoesG.appendT rfl (.tmp 63) (.tmp 65) 31 rfl vv v2 _ e1 e2 hrun ⟨trivial, hA.jnv.three' (by rw [hA.lsz]; decide) (hA.lanc 2 (by kernel_rfl))⟩ (fun s h1 h2 => h1 rfl))
                | 4, ho =>
                  obtain rfl := Option.some.inj ho
                  have e1 : a'.eval (.tmp 6) = .int .i64 (a : Int) := hA.keep 6 (by kernel_rfl)
                  have hx := hcell W hA.jnv
                  obtain ⟨x0, x1, x2, x3⟩ := hx
                  refine GoesJ.of (GoesG.value (.int .i64 (a : Int)) rfl ?_ ⟨trivial, hA.jnv.other (by decide) (by decide)⟩ (fun s h1 h2 => h1 rfl))
                  simp only [execOp, e1]
                  simp [go_sem, x0, x1, x2, x3]
                | 5, ho =>
                  obtain rfl := Option.some.inj ho
                  have e1 : a'.eval (.tmp 7) = .pointer (some ⟨tb, 0, none⟩) := hA.keep 7 (by kernel_rfl)
                  have hx := hcell W hA.jnv
                  obtain ⟨x0, x1, x2, x3⟩ := hx
                  refine GoesJ.of (GoesG.value (.pointer (some ⟨tb, 1, none⟩)) rfl ?_ ⟨trivial, hA.jnv.other (by decide) (by decide)⟩ (fun s h1 h2 => h1 rfl))
                  simp only [execOp, e1]
                  simp [go_sem, x0, x1, x2, x3]
                | 6, ho =>
                  obtain rfl := Option.some.inj ho
                  have e1 : a'.eval (.tmp 68) = .pointer (some ⟨tb, 1, none⟩) := (sv_dst (l := _) rfl).symm.trans (hA.new 5 (by decide) (by kernel_rfl))
                  have hx := hcell W hA.jnv
                  obtain ⟨x0, x1, x2, x3⟩ := hx
                  refine GoesJ.of (GoesG.value (sV tx) rfl ?_ ⟨trivial, hA.jnv.other (by decide) (by decide)⟩ (fun s h1 h2 => h1 rfl))
                  simp only [execOp, e1]
                  simp [go_sem, x0, x1, x2, x3]
                | 7, ho =>
                  obtain rfl := Option.some.inj ho
                  have e1 : a'.eval (.tmp 69) = sV tx := (sv_dst (l := _) rfl).symm.trans (hA.new 6 (by decide) (by kernel_rfl))
                  have hx := hcell W hA.jnv
                  obtain ⟨x0, x1, x2, x3⟩ := hx
                  refine GoesJ.of (GoesG.value (.int .i64 (tx.length : Int)) rfl ?_ ⟨trivial, hA.jnv.other (by decide) (by decide)⟩ (fun s h1 h2 => h1 rfl))
                  simp [go_sem] at e1
                  simp [execOp, go_sem, e1]
                | 8, ho =>
                  obtain rfl := Option.some.inj ho
                  have e1 : a'.eval (.tmp 67) = .int .i64 (a : Int) := (sv_dst (l := _) rfl).symm.trans (hA.new 4 (by decide) (by kernel_rfl))
                  have e2 : a'.eval (.tmp 70) = .int .i64 (tx.length : Int) := (sv_dst (l := _) rfl).symm.trans (hA.new 7 (by decide) (by kernel_rfl))
                  have hx := hcell W hA.jnv
                  obtain ⟨x0, x1, x2, x3⟩ := hx
                  refine GoesJ.of (GoesG.value (.int .i64 ((a : Int) + (tx.length : Int))) rfl ?_ ⟨trivial, hA.jnv.other (by decide) (by decide)⟩ (fun s h1 h2 => h1 rfl))
                  simp only [execOp, e1, e2]
                  simp [go_sem]
                  have h9 := HX2.out
                  simp [IntKind.wrap, IntKind.min, IntKind.max, IntKind.signed, IntKind.bits, wrap64]
                  omega
                | 9, ho =>
                  obtain rfl := Option.some.inj ho
                  have e1 : a'.eval (.tmp 66) = v2 := (sv_dst (l := _) rfl).symm.trans (hA.new 3 (by decide) (by kernel_rfl))
                  have hx := hcell W hA.jnv
                  obtain ⟨x0, x1, x2, x3⟩ := hx
                  refine GoesJ.of (GoesG.value (v2) rfl ?_ ⟨trivial, hA.jnv.other (by decide) (by decide)⟩ (fun s h1 h2 => h1 rfl))
                  simp only [execOp, e1]
                  simp [go_sem, x0, x1, x2, x3]
                | i + 10, ho => cases ho
              · intro vs listed wx hvs _ hJ hall hΦ
                have hW := hJ.fin (hall 3 (by decide))
                subst wx
                obtain ⟨y0, y1, y2, y3, y4, y5, y6, y7, y8, y9, rfl⟩ : ∃ y0 y1 y2 y3 y4 y5 y6 y7 y8 y9, vs = y0 :: y1 :: y2 :: y3 :: y4 :: y5 :: y6 :: y7 :: y8 :: y9 :: [] := by
                  match vs, hvs with
                  | y0 :: y1 :: y2 :: y3 :: y4 :: y5 :: y6 :: y7 :: y8 :: y9 :: [], _ => exact ⟨y0, y1, y2, y3, y4, y5, y6, y7, y8, y9, rfl⟩
                have q0 : y0 = vv := hΦ 0 (by decide)
                have q1 : y1 = .agg #[.int .i64 tk, sV tx, .int .i64 tv, .int .i64 tp] := hΦ 1 (by decide)
                have q2 : y2 = .slice (some ⟨W0.heap.size, 0, none⟩) 1 1 := hΦ 2 (by decide)
                have q3 : y3 = v2 := hΦ 3 (by decide)
                have q4 : y4 = .int .i64 (a : Int) := hΦ 4 (by decide)
                have q5 : y5 = .pointer (some ⟨tb, 1, none⟩) := hΦ 5 (by decide)
                have q6 : y6 = sV tx := hΦ 6 (by decide)
                have q7 : y7 = .int .i64 (tx.length : Int) := hΦ 7 (by decide)
                have q8 : y8 = .int .i64 ((a : Int) + (tx.length : Int)) := hΦ 8 (by decide)
                have q9 : y9 = v2 := hΦ 9 (by decide)
                subst q0
                subst q1
                subst q2
                subst q3
                subst q4
                subst q5
                subst q6
                subst q7
                subst q8
                subst q9
                clear hΦ hvs hall hJ
                simp only [putAll, Act.put, List.setIfInBounds_toArray, List.set_cons_succ, List.set_cons_zero]
                go_wp2
                go_roundw
                case rel => exact ⟨a + tx.length, f, acc ++ [⟨tk, tx, tv, tp⟩], _, rfl, by go_num, HX2.out, by have := HF.out; omega, by simp only [List.length_append, List.length_singleton]; have := HAC.out; omega, HG.out, HROW2.out, HE2.out⟩
                case measure => simp [intOf]; omega
            · have HG := Lib.hid (HBAD.out hE0)
              have h9 : ¬ (E = 0) := hE0
              go_wp2
              exact bodyPost_ret (v := .tuple #[.slice (some ⟨w3.heap.size + 1, 0, none⟩) 0 0, .int .i64 (a : Int), .int .i64 E]) (by simp [results, Tryz.f21, go_sem]) rfl ⟨_, by rw [HG.out], by rw [HG.out]; have := HNIL.out _ (Ext.trans HE3.out HX.out); rw [World.size_alloc] at this; exact this, Ext.trans (Ext.trans HE3.out HX.out) (ext_alloc _ _)⟩
      · obtain rfl : a = s.length := by omega
        have HG := Lib.hid (show R = (acc ++ [⟨0, [], 0, s.length⟩], 0, 0) by rw [← HRR.out, toksF_end (by unfold blk; omega)])
        have HROW1 := Lib.hid HROW.out
        have hsz1 : w.heap.size ≤ wr.heap.size := hwz
        go_wp2_with (at_builtin; go_loud (refine wp_appT (by rfl) _ _ (by rfl) w.heap.size vv acc (by rfl) _ HROW1.out ⟨0, [], 0, s.length⟩ _ (by rfl) _ (by rfl) rfl (by omega) hsz1 ?_); intro v5n w5 hrow5 hbel5 hkb5)
        exact bodyPost_ret (v := .tuple #[v5n, .int .i64 0, .int .i64 0]) (by simp [results, Tryz.f21, go_sem]) rfl ⟨v5n, by rw [HG.out], by rw [HG.out]; exact hrow5, Below.trans HE.out hbel5⟩
end Go.Proofs.YtmokejjndkibhaaGreatDoor

namespace Go.Proofs.YtmokejjndkibhaaGreatDoor
open Go.RowKit Go.Shelf Ex
set_option linter.unusedVariables false
set_option linter.unusedSimpArgs false

theorem toks_lenT {s : List UInt8} (hs : s.length ≤ 4000) : (toksR s).1.length ≤ 4001 := by
  by_cases he : (toksR s).2.2 = 0
  · obtain ⟨_, _, ts, h1, h2, _⟩ := toksR_form he
    rw [h1]; simp; omega
  · have h := toksR_toks s hs
    have : (toksR s).1 = [] := by
      generalize (toksR s).1 = l at *
      generalize (toksR s).2.1 = p at *
      generalize (toksR s).2.2 = e at *
      cases h <;> first | rfl | exact absurd rfl he
    rw [this]; simp
set_option maxRecDepth 100000 in
set_option maxHeartbeats 4000000 in
theorem lexerTokens_walk (a0 : ByteArray) (a1 : Int) (w : World) (h0 : a0.size ≤ 140737488351232) (h1 : (Lit.int .i64 a1).wf = true) (hTab : TabW w) (hM : MaxL w) : Gives Tryz.prog 7 #[.string a0, .int .i64 a1] w (.bool true) := by
  obtain ⟨s, rfl⟩ := sB_of a0
  have hsz := sB_size s
  have KA := Lib.hid (fun W (hW : Ext w W) => lxAwake_any W (hTab.below hW) (hM.ext hW))
  unfold Gives
  by_cases hl : 400 < s.length
  · clear hTab hM
    go_enter Tryz.func7, Tryz.ntmps7
    go_wp2_with fail
    refine (KA.out _ (Below.refl _ _)).mono ?_
    intro w1 hE
    go_wp2
    go_ret
    exact ⟨rfl, hE⟩
  · have KT1 := Lib.hid (Tokens_any s w (by omega))
    have KT2 := Lib.hid (fun W => rfTokens_any s W (by omega))
    have KP1 := Lib.hid (fun W => Position_any s a1 W (by omega))
    have KP2 := Lib.hid (fun W => rfPosition_any s a1 W (by omega))
    have KK1 := Lib.hid (fun W (hW : Ext w W) => Keyword_any s W (by omega) (hM.ext hW))
    have KK2 := Lib.hid (fun W => rfKeyword_any s W)
    have hTL := toks_lenT (s := s) (by omega)
    clear hTab hM
    generalize (toksR s).2.1 = p0 at *
    generalize (toksR s).2.2 = e0 at *
    generalize (toksR s).1 = l at *
    generalize (posR s a1).1 = r1 at *
    generalize (posR s a1).2 = r2 at *
    generalize kwB s = kb at *
    have KS := Lib.hid (fun p q c d W hP hQ => rfSame_any l p q c d W hP hQ (by omega))
    obtain ⟨n, hn⟩ : ∃ n, l.length = n := ⟨_, rfl⟩
    simp only [hn] at KS
    have HN := Lib.hid hn
    clear hn hTL
    go_enter Tryz.func7, Tryz.ntmps7
    go_wp2_with fail
    refine (show Calls _ _ _ _ _ from KT1.out).mono ?_
    rintro _ w1 ⟨v, rfl, hR1, hE1⟩
    obtain ⟨pr, cr, rfl, hP, hcap⟩ := hR1.at
    have HP := Lib.hid (fun W (hW : Ext w1 W) => hP.ext hW)
    have HE1 := Lib.hid hE1
    rw [HN.out]
    clear hR1 hP hE1 hcap
    go_wp2_with fail
    refine (show Calls _ _ _ _ _ from KT2.out _).mono ?_
    rintro _ w2 ⟨v2, rfl, hR2, hE2⟩
    obtain ⟨pr2, cr2, rfl, hP2, hcap2⟩ := hR2.at
    have HP2 := Lib.hid (fun W (hW : Ext w2 W) => hP2.ext hW)
    have HE12 := Lib.hid hE2
    have HE2 := Lib.hid (Ext.trans HE1.out hE2)
    rw [HN.out]
    clear hR2 hP2 hE2 hcap2
    go_wp2_with fail
    refine (KP1.out _).mono ?_
    intro w3 hE3
    replace hE3 : Ext w2 w3 := hE3
    have HE23 := Lib.hid hE3
    clear hE3
    go_wp2_with fail
    refine (KP2.out _).mono ?_
    intro w4 hE4
    have HE24 := Lib.hid (Ext.trans HE23.out hE4)
    clear hE4
    go_wp2_with fail
    refine (KS.out _ _ _ _ _ (HP.out _ (Ext.trans HE12.out HE24.out)) (HP2.out _ HE24.out)).mono ?_
    intro w5 hE5
    have HE5 := Lib.hid (Ext.trans (Ext.trans HE2.out HE24.out) hE5)
    clear hE5
    go_wp2_with fail
    refine (KK1.out _ HE5.out).mono ?_
    intro w6 hE6
    have HE6 := Lib.hid (Ext.trans HE5.out hE6)
    clear hE6
    go_wp2_with fail
    refine (KK2.out _).mono ?_
    intro w7 hE7
    have HE7 := Lib.hid (Ext.trans HE6.out hE7)
    clear hE7
    go_wp2_with fail
    refine (KA.out _ HE7.out).mono ?_
    intro w8 hE8
    have HE8 := Lib.hid (Ext.trans HE7.out hE8)
    clear hE8
    go_wp2
    go_ret
    exact ⟨rfl, HE8.out⟩
end Go.Proofs.YtmokejjndkibhaaGreatDoor

namespace Go.Proofs.YtmokejjndkibhaaGreatDoor.lexerTokens
open Go.ChangeShapes Go.WideShapes Go.ChangeAt Go.RowKit
open Go.ChangeMaps (open_string shut_string)
set_option linter.unusedVariables false

theorem own : ownKnob Tryz.prog.godebug = none := by kernel_rfl
theorem laidOut : laidOutB Tryz.prog = true := by kernel_rfl
/-- the cells of a datum of plain values -/
def flat : Nat → DataW Unit → List Value
  | _, .lit l => [l.value]
  | n + 1, .agg ps => ps.flatMap (flat n)
  | _, _ => []
/-- a world for the witness: the settled one, the listed tables holding what the text lays -/
def lay (d : DataW Unit) : Obj → Obj
  | .cells _ t frozen => .cells (flat 4 d).toArray t frozen
  | o => o
noncomputable def laidWorld (os : Os) : World :=
  { World.holding Tryz.prog os ⟨#[], #[], []⟩ with heap := ((((World.holding Tryz.prog os ⟨#[], #[], []⟩).heap.modify 2 (lay Rows.laid_math_bits_deBruijn32tab)).modify 3 (lay Rows.laid_math_bits_deBruijn64tab)).modify 1 (lay Rows.laid_internal_strconv_uint64pow10)) }
theorem laid_met (os : Os) : laidMet Tryz.prog Rows.lexerTokensRow.laid ((laidWorld os).forCall (fun _ _ => 0) ⟨#[], #[.string ByteArray.empty, .int .i64 0], []⟩).memory :=
  laidMet_of_run' 8 (by kernel_rfl) (by kernel_rfl)
theorem reads (os : Os) {H : Type} (enc : TypeId × Value → H) : ∃ places, DataW.whole enc Tryz.prog ((laidWorld os).forCall (fun _ _ => 0) ⟨#[], #[.string ByteArray.empty, .int .i64 0], []⟩).memory Tryz.f7.params.toList Rows.lexerTokensSpec.vars false (#[.string ByteArray.empty, .int .i64 0] : Array Value).toList 8 = some ([.lit (.string []), .lit (.int .i64 0)], [], places) :=
  ⟨[], by kernel_rfl⟩
theorem shape (W : World) (h : W.ShapedOpen Tryz.prog) : MaxL W := cell_of_shapedOpen_int (zero := #[.int .i64 0]) h (of_decide_eq_true (by kernel_rfl)) (by kernel_rfl) (by kernel_rfl) (by kernel_rfl) (by kernel_rfl) Tryz.underlying3

theorem tab (W : World) (h : laidMetH Tryz.prog Rows.lexerTokensRow.laid W) : TabW W := by
  have h1 : laidMet Tryz.prog Rows.lexerTokensRow.laid W := h
  exact Lib.tabIs_of_head (g := 1) (t := 153) (e := 131) (n := 20) (by kernel_rfl) (by kernel_rfl) Tryz.underlying153 Tryz.underlying131 (by kernel_rfl) (by kernel_rfl) h1.tail.tail
set_option maxRecDepth 100000 in
theorem contract (H : Type) (enc : TypeId × Value → H) (W : World) (base : Nat) (args : Array Value) (ds gs : List (DataW H)) (before : List MemPlace)
    (hval0 : ∀ (j : Nat) t v, Tryz.f7.params[j]? = some t → args[j]? = some v → Value.okWide Tryz.prog W .any base t v)
    (hW : DataW.Whole enc Tryz.prog Tryz.f7.params.toList Rows.lexerTokensSpec.vars false W args.toList ds gs before) (hz : (DataW.weightsEach Tryz.prog (Tryz.f7.params.toList ++ (OpenSpec.ofChange Rows.lexerTokensSpec).bare.plain.varTypes Tryz.prog) (ds ++ gs)).all (· ≤ reachBytes) = true) (hL : laidMetH Tryz.prog Rows.lexerTokensRow.laid W) (hm : MaxL W) :
    Calls Tryz.prog 7 args W fun e W' => ∃ v, e = .returned v ∧ Rows.lexerTokensSpec.post enc Tryz.prog Tryz.f7 false true false false W args v W' := by
  have hval := hval0
  have hW' := hW
  obtain ⟨p, q, hA0, hV, rfl, hfz, hnd⟩ := hW
  have hA : DataW.TrodAll enc Tryz.prog W 0 (fun _ => true) true Tryz.f7.params.toList args.toList ds p := hA0
  rw [Tryz.params7] at hA hval
  obtain ⟨v0, vs0, d0, ds0, p0, q0, hargs, rfl, rfl, h0, r0⟩ := trodAll_cons hA
  obtain ⟨v1, vs1, d1, ds1, p1, q1, rfl, rfl, rfl, h1, r1⟩ := trodAll_cons r0
  obtain ⟨rfl, rfl, rfl⟩ := trodAll_nil r1
  obtain rfl : args = #[v0, v1] := by cases args; simp_all
  obtain ⟨rfl, rfl⟩ := trodVars_none hV
  obtain ⟨a0, rfl, rfl, rfl, w0⟩ := open_string Tryz.underlying9 (hval 0 9 v0 rfl rfl) h0
  obtain ⟨a1, rfl, rfl, rfl, w1⟩ := open_int Tryz.underlying3 (hval 1 3 v1 rfl rfl) h1
  have s0 : a0.size ≤ 140737488351232 := by rw [Lib.size_eq]; exact sized_string hz (j := 0) rfl rfl
  clear hA0 hval0 hz
  simp only [List.append_nil] at hW'
  refine (lexerTokens_walk a0 a1 W s0 w1 (tab W hL) hm).mono fun W' bel => ?_
  exact ⟨_, rfl, _, _, _, [], [], [], hW', trodAll_mk1 (shut_bool Tryz.underlying4 _), (trodAll_cons_mk (shut_string Tryz.underlying9 w0) (trodAll_cons_mk (shut_int Tryz.underlying3 w1) trodAll_mk0)), rfl, bel.frame _, fun h => by cases h⟩

set_option maxRecDepth 100000 in
theorem lifted (os : Os) (started : os.Started) (H : Type) (enc : TypeId × Value → H) (F : Stop.Interp) :
    ReturnsInHanded {} Tryz.checked os 7 .any ((OpenSpec.ofChange Rows.lexerTokensSpec).preRow enc Tryz.prog Tryz.f7 Rows.lexerTokensRow.domain false Rows.lexerTokensRow.laid) (((OpenSpec.ofChange Rows.lexerTokensSpec).at F).post enc Tryz.prog Tryz.f7 false true false false) := by
  obtain ⟨places, hx⟩ := reads os enc
  refine returnsInHanded_of_row (C := Tryz.checked) (s := OpenSpec.ofChange Rows.lexerTokensSpec) own started (by kernel_rfl) Tryz.func7
    (witness_row_at (enc := enc) (C := Tryz.checked) false (laidWorld os) #[.string ByteArray.empty, .int .i64 0] rfl (by kernel_rfl) (by kernel_rfl) (by kernel_rfl)
      (OpenSpec.preRow_of_cond 8 hx (by kernel_rfl) (fun k hk => by cases hk) (by kernel_rfl) (laid_met os))) ?_
  intro W base args ds gs before hval hW _ _ hz hL hsh _
  exact contract H enc W base args ds gs before hval hW hz hL (shape W hsh)

theorem said : Rows.LexerTokensSaid :=
  OpenClaim.holds_of_cond 7 Tryz.f7 rfl rfl rfl rfl rfl rfl rfl ⟨rfl, rfl, rfl, rfl, rfl⟩ rfl rfl rfl rfl rfl (by kernel_rfl) Tryz.func7 (by kernel_rfl)
    (of_decide_eq_true (by kernel_rfl)) (by unfold Func.isWrapper; first | (rw [if_pos (by decide +kernel)]; kernel_rfl) | (rw [if_neg (by decide +kernel)]; exact ⟨rfl, rfl⟩))
    (fun os started H enc _ F => by rw [OpenClaim.pre_eq_preRow]; exact lifted os started H enc F)

theorem plain (f : FuncId) (fn : Func) (hf : Tryz.pinned.checked.prog.funcNamed "nursery/nurserylaw10.LexerTokens" = some f) (hfn : Tryz.pinned.checked.prog.funcs[f]? = some fn) :
    true = Tryz.pinned.checked.prog.looks [] ∧ ∀ (j : Nat) t, fn.params[j]? = some t → Tryz.pinned.checked.prog.wantsStandIn t = false := by
  obtain rfl : f = 7 := Option.some.inj ((show Tryz.prog.funcNamed "nursery/nurserylaw10.LexerTokens" = some 7 by kernel_rfl).symm.trans hf) |>.symm
  obtain rfl : fn = Tryz.f7 := (Option.some.inj (Tryz.func7.symm.trans hfn)).symm
  refine ⟨by kernel_rfl, fun j t ht => ?_⟩
  rw [Tryz.params7] at ht
  rcases j with _ | _ | j
  · obtain rfl : t = 9 := by simpa using ht.symm
    exact (show Tryz.prog.wantsStandIn 9 = false by kernel_rfl)
  · obtain rfl : t = 3 := by simpa using ht.symm
    exact (show Tryz.prog.wantsStandIn 3 = false by kernel_rfl)
  · simp at ht

/-- the statement -/
theorem proved : Rows.LexerTokensCardSaid :=
  Claim7.holds_tied_plain_at .later [] _ _ _ _ said (fun _ h => by cases h) (by kernel_rfl) (fun _ h => by cases h) lexerTokens_row_tie rfl ⟨rfl, rfl⟩ (by kernel_rfl) rfl plain (by kernel_rfl)
#print axioms proved
end Go.Proofs.YtmokejjndkibhaaGreatDoor.lexerTokens

