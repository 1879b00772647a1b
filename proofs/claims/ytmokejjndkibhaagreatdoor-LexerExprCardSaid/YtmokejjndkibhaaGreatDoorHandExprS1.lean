/- The statement LexerExprCardSaid: for every input the law returns true, and the arguments read as before; the tables of the library that it lists are tied to the text. The frame round the walk of the law. (With it: The lexer's Position.; The reference's small functions. Printed by mk_lxra.py.; LexerGrouping, plain: two operators in a row.; The reference's next, is, operator, digits. Printed by mk_lxre.py.; The reference's name and digits.; The reference's digits.; Reading, as the reference's functions ask: plain.; A step of the reference's operand: the ways that call no reading. Printed by mk_lxrj.py.; The reference's operand: a sign ahead, what follows reads badly. Printed by mk_lxrk.py.; The reference's operand: a parenthesis ahead. Printed by mk_lxrl.py.; The reference's operand: a step, all ways joined.; The reference's expression of the last precedence: an operand.; The reference's expression: what the next precedence reads badly.; The reference's expression: the loop. DRAFT.; The reference's reading: operand and expression together.; The reference's one. Printed by mk_lxrb.py.; A drawn region, head and tail, with an invariant on what has come up and the world. Printed by mk_rtj.py.; Appending a token to a row of one's own, as a run.; The reference's Tokens. Printed by mk_lxrd.py.; The reference's Parse. Printed by mk_lxrs.py.; LexerParse: Parse gives what the reference's gives.; Expr, both. Printed by mk_lxru.py.; Tokens that came in.; LexerExpr: Expr gives what the reference's gives. Printed by mk_lexpr.py out of LawParse.) -/
import Derived.Deep.DeepAppendWide
import Derived.Stop.LaidErr
import Derived.Test.YtmokejjndkibhaaGreatDoorCards
import Derived.Test.YtmokejjndkibhaaGreatDoorTie
import Derived.WalkKit
import Derived.ProofKit
import Derived.OpenShut
import Derived.ShutString
import Derived.ChangeOld
import Derived.Below
import Derived.Deep.DeepHandedRow
import Derived.Lib.LaidTab
import Derived.Shelf.Vars
import Derived.Test.YtmokejjndkibhaaGreatDoorSh12
import Derived.Test.YtmokejjndkibhaaGreatDoorSh7
import Derived.Test.YtmokejjndkibhaaGreatDoorSh10
import Derived.Test.YtmokejjndkibhaaGreatDoorSh11
import Derived.Test.YtmokejjndkibhaaGreatDoorSh8
import Derived.Test.YtmokejjndkibhaaGreatDoorSh4
import Derived.Test.YtmokejjndkibhaaGreatDoorSh6

namespace Go.Proofs.YtmokejjndkibhaaGreatDoor
open Go.RowKit Go.Shelf Ex
set_option linter.unusedVariables false
set_option linter.unusedSimpArgs false
attribute [local go_sem] sB_extract

end Go.Proofs.YtmokejjndkibhaaGreatDoor

namespace Go.Proofs.YtmokejjndkibhaaGreatDoor
open Go.RowKit Go.Shelf Ex
set_option linter.unusedVariables false
set_option linter.unusedSimpArgs false
attribute [local go_sem] sB_extract

theorem rfLetter_any (c : UInt8) (w : World) : Gives Tryz.prog 74 #[.int .u8 (c.toNat : Int)] w (.bool (letB c)) := by
  unfold Gives letB
  by_cases h : 97 ≤ c.toNat
  · have g : (97 : Int) ≤ (c.toNat : Int) := by omega
    by_cases h2 : c.toNat ≤ 122
    · have g2 : (c.toNat : Int) ≤ 122 := by omega
      rw [decide_eq_true (And.intro h h2)]
      clear h h2
      go_enter Tryz.func74, Tryz.ntmps74
      go_wp2
      all_goals (first | omega | (go_ret; exact ⟨by first | rfl | (simp; omega), Below.refl _ _⟩))
    · have g2 : ¬ (c.toNat : Int) ≤ 122 := by omega
      rw [decide_eq_false (fun e => h2 e.2)]
      clear h h2
      go_enter Tryz.func74, Tryz.ntmps74
      go_wp2
      all_goals (first | omega | (go_ret; exact ⟨by first | rfl | (simp; omega), Below.refl _ _⟩))
  · have g : ¬ (97 : Int) ≤ (c.toNat : Int) := by omega
    rw [decide_eq_false (fun e => h e.1)]
    clear h
    go_enter Tryz.func74, Tryz.ntmps74
    go_wp2
    all_goals (first | omega | (go_ret; exact ⟨by first | rfl | (simp; omega), Below.refl _ _⟩))
theorem rfDigit_any (c : UInt8) (w : World) : Gives Tryz.prog 76 #[.int .u8 (c.toNat : Int)] w (.bool (digB c)) := by
  unfold Gives digB
  by_cases h : 48 ≤ c.toNat
  · have g : (48 : Int) ≤ (c.toNat : Int) := by omega
    by_cases h2 : c.toNat ≤ 57
    · have g2 : (c.toNat : Int) ≤ 57 := by omega
      rw [decide_eq_true (And.intro h h2)]
      clear h h2
      go_enter Tryz.func76, Tryz.ntmps76
      go_wp2
      all_goals (first | omega | (go_ret; exact ⟨by first | rfl | (simp; omega), Below.refl _ _⟩))
    · have g2 : ¬ (c.toNat : Int) ≤ 57 := by omega
      rw [decide_eq_false (fun e => h2 e.2)]
      clear h h2
      go_enter Tryz.func76, Tryz.ntmps76
      go_wp2
      all_goals (first | omega | (go_ret; exact ⟨by first | rfl | (simp; omega), Below.refl _ _⟩))
  · have g : ¬ (48 : Int) ≤ (c.toNat : Int) := by omega
    rw [decide_eq_false (fun e => h e.1)]
    clear h
    go_enter Tryz.func76, Tryz.ntmps76
    go_wp2
    all_goals (first | omega | (go_ret; exact ⟨by first | rfl | (simp; omega), Below.refl _ _⟩))
set_option maxRecDepth 100000 in
set_option maxHeartbeats 1000000 in
theorem rfInside_any (c : UInt8) (w : World) : Gives Tryz.prog 75 #[.int .u8 (c.toNat : Int)] w (.bool (insC c)) := by
  unfold Gives
  have KL := Lib.hid (fun W => rfLetter_any c W)
  have KD := Lib.hid (fun W => rfDigit_any c W)
  have HI := Lib.hid (show insC c = (letB c || digB c || decide (c.toNat = 95)) from rfl)
  generalize letB c = a at *
  generalize digB c = b at *
  cases a with
  | true =>
    have HV := Lib.hid (show insC c = true by rw [HI.out]; simp)
    rw [HV.out]
    go_enter Tryz.func75, Tryz.ntmps75
    go_wp2_with fail
    refine (KL.out _).mono ?_
    intro w1 hE
    go_wp2
    go_ret
    exact ⟨rfl, hE⟩
  | false =>
    cases b with
    | true =>
      have HV := Lib.hid (show insC c = true by rw [HI.out]; simp)
      rw [HV.out]
      go_enter Tryz.func75, Tryz.ntmps75
      go_wp2_with fail
      refine (KL.out _).mono ?_
      intro w1 hE
      have HE := Lib.hid (show Ext w w1 from hE)
      clear hE
      go_wp2_with fail
      refine (KD.out _).mono ?_
      intro w2 hE
      have HE2 := Lib.hid (Ext.trans HE.out hE)
      clear hE
      go_wp2
      go_ret
      exact ⟨rfl, HE2.out⟩
    | false =>
      have HV := Lib.hid (show insC c = decide (c.toNat = 95) by rw [HI.out]; simp)
      rw [HV.out]
      by_cases h : c.toNat = 95
      · rw [decide_eq_true h]
        have h2 := Lib.hid (show ((c.toNat : Int) = 95) from by omega)
        clear h HI HV
        go_enter Tryz.func75, Tryz.ntmps75
        go_wp2_with fail
        refine (KL.out _).mono ?_
        intro w1 hE
        have HE := Lib.hid (show Ext w w1 from hE)
        clear hE
        go_wp2_with fail
        refine (KD.out _).mono ?_
        intro w2 hE
        have HE2 := Lib.hid (Ext.trans HE.out hE)
        clear hE
        have h := h2.out
        go_wp2
        go_ret
        exact ⟨by first | rfl | simp [h], HE2.out⟩
      · rw [decide_eq_false h]
        have h2 := Lib.hid (show ¬ ((c.toNat : Int) = 95) from by omega)
        clear h HI HV
        go_enter Tryz.func75, Tryz.ntmps75
        go_wp2_with fail
        refine (KL.out _).mono ?_
        intro w1 hE
        have HE := Lib.hid (show Ext w w1 from hE)
        clear hE
        go_wp2_with fail
        refine (KD.out _).mono ?_
        intro w2 hE
        have HE2 := Lib.hid (Ext.trans HE.out hE)
        clear hE
        have h := h2.out
        go_wp2
        go_ret
        exact ⟨by first | rfl | simp [h], HE2.out⟩
set_option maxRecDepth 100000 in
set_option maxHeartbeats 2000000 in
theorem rfNumber_any (s : List UInt8) (hd : DigsL s) (hs : s.length ≤ 100000) (w : World) : Gives Tryz.prog 77 #[sV s] w (.int .i64 (satV 0 s)) := by
  unfold Gives
  have hsz := sB_size s
  obtain ⟨R, hR⟩ : ∃ R, satV 0 s = R := ⟨_, rfl⟩
  rw [hR]
  have HR := Lib.hid hR
  have HD := Lib.hid (fun k (h : k < s.length) => hd s[k] (List.getElem_mem h))
  clear hR hd
  go_enter Tryz.func77, Tryz.ntmps77
  go_wp2
  go_loopw [3, 4] (fun u i wr => ∃ (j : Nat) (N : Int), j ≤ s.length ∧ i = .int .i64 (j : Int) ∧ u = .int .i64 N ∧ 0 ≤ N ∧ N ≤ 10995116277769 ∧ satV N (s.drop j) = R ∧ wr = w) (fun _ i _ => s.length - (intOf i).toNat)
  case atStart => exact ⟨0, 0, Nat.zero_le _, rfl, rfl, by omega, by omega, HR.out, rfl⟩
  case round =>
    obtain ⟨j, N, hj, rfl, rfl, h0, h1, hN, rfl⟩ := hrel
    by_cases hlt : j < s.length
    · have hd := HD.out j hlt
      rw [List.drop_eq_getElem_cons hlt, satV] at hN
      obtain ⟨c, hc⟩ : ∃ c : Nat, (s[j]).toNat = c := ⟨_, rfl⟩
      rw [hc] at hN hd
      have hu := u8_sub hd.1 hd.2
      obtain ⟨hd1, hd2⟩ := hd
      by_cases hN1 : N ≤ 1099511627776
      · rw [if_pos hN1] at hN
        have HN := Lib.hid hN
        clear hN
        go_wp2
        go_roundw
        case rel => exact ⟨j + 1, N * 10 + ((c : Int) - 48), by omega, by go_num, by first | rfl | (congr 1; omega) | go_num, by omega, by omega, HN.out, by first | rfl | trivial⟩
        case measure => simp [intOf]; omega
      · rw [if_neg hN1] at hN
        clear hd1 hd2 hu
        subst hN
        go_wp2
        go_ret
        exact ⟨rfl, Below.refl _ _⟩
    · obtain rfl : j = s.length := by omega
      rw [List.drop_eq_nil_of_le (Nat.le_refl _), satV] at hN
      subst hN
      go_wp2
      go_ret
      exact ⟨rfl, Below.refl _ _⟩
theorem pre_iff (x l : List UInt8) : x.isPrefixOf l = true ↔ x.length ≤ l.length ∧ l.take x.length = x := by
  rw [List.isPrefixOf_iff_prefix]
  constructor
  · intro h
    exact ⟨h.length_le, (List.prefix_iff_eq_take.1 h).symm⟩
  · rintro ⟨_, h⟩
    rw [← h]; exact List.take_prefix _ _
theorem sgR_len : sgR.length = 21 := rfl
theorem kwL_len : kwL.length = 69 := rfl
set_option maxRecDepth 100000 in
set_option maxHeartbeats 4000000 in
theorem rfSign_any (l : List UInt8) (hl : l.length ≤ 100000) (w : World) : Gives Tryz.prog 78 #[sV l] w (.int .i64 (sgLen l : Nat)) := by
  unfold Gives
  have hsz := sB_size l
  have HH := Lib.hid (fun j (hj : j < sgR.length) => sgR_hit (l := l) (x := []) hj)
  have HNN := Lib.hid (fun h => sgR_none (l := l) h)
  generalize sgLen l = R at *
  go_enter Tryz.func78, Tryz.ntmps78
  go_upto_region 2 with fail
  obtain ⟨w1, hw1⟩ : ∃ W, w.alloc (.cells #[.string { data := #[38, 38] }, .string { data := #[124, 124] }, .string { data := #[61, 61] }, .string { data := #[33, 61] }, .string { data := #[60, 61] }, .string { data := #[62, 61] }, .string { data := #[60] }, .string { data := #[62] }, .string { data := #[43] }, .string { data := #[45] }, .string { data := #[42] }, .string { data := #[47] }, .string { data := #[37] }, .string { data := #[33] }, .string { data := #[61] }, .string { data := #[40] }, .string { data := #[41] }, .string { data := #[123] }, .string { data := #[125] }, .string { data := #[44] }, .string { data := #[59] }] 9) = W := ⟨_, rfl⟩
  rw [hw1]
  have hk := alloc_here w (.cells #[.string { data := #[38, 38] }, .string { data := #[124, 124] }, .string { data := #[61, 61] }, .string { data := #[33, 61] }, .string { data := #[60, 61] }, .string { data := #[62, 61] }, .string { data := #[60] }, .string { data := #[62] }, .string { data := #[43] }, .string { data := #[45] }, .string { data := #[42] }, .string { data := #[47] }, .string { data := #[37] }, .string { data := #[33] }, .string { data := #[61] }, .string { data := #[40] }, .string { data := #[41] }, .string { data := #[123] }, .string { data := #[125] }, .string { data := #[44] }, .string { data := #[59] }] 9)
  rw [hw1] at hk
  have HK := Lib.hid (fun (j : Nat) (h : j < sgR.length) => (show w1.cell? ⟨w.heap.size, j, none⟩ = some (sV sgR[j]) from cell_of hk (by
    have e : (#[.string { data := #[38, 38] }, .string { data := #[124, 124] }, .string { data := #[61, 61] }, .string { data := #[33, 61] }, .string { data := #[60, 61] }, .string { data := #[62, 61] }, .string { data := #[60] }, .string { data := #[62] }, .string { data := #[43] }, .string { data := #[45] }, .string { data := #[42] }, .string { data := #[47] }, .string { data := #[37] }, .string { data := #[33] }, .string { data := #[61] }, .string { data := #[40] }, .string { data := #[41] }, .string { data := #[123] }, .string { data := #[125] }, .string { data := #[44] }, .string { data := #[59] }] : Array Value) = (sgR.map sV).toArray := rfl
    rw [e, List.getElem?_toArray, List.getElem?_map, List.getElem?_eq_getElem h]; rfl)))
  have HE1 := Lib.hid (show Ext w w1 from by rw [← hw1]; exact ext_alloc _ _)
  clear hw1 hk
  generalize w.heap.size = B at *
  go_wp2
  go_loopw [4] (fun i wr => ∃ j : Nat, j ≤ 21 ∧ i = .int .i64 (j : Int) ∧ (∀ y ∈ sgR.take j, y.isPrefixOf l = false) ∧ Ext w1 wr) (fun i _ => 21 - (intOf i).toNat)
  case atStart => exact ⟨0, Nat.zero_le _, rfl, (fun y h => by simp at h), Below.refl _ _⟩
  case round =>
    obtain ⟨j, hj, rfl, hno, hE⟩ := hrel
    have HE := Lib.hid hE
    have HNO := Lib.hid hno
    by_cases hlt : j < 21
    · have HJ := Lib.hid (show j < sgR.length from hlt)
      have z0 := Ext.cellE (HK.out j HJ.out) hE
      have hh := HH.out j HJ.out
      have hxm : (sgR[j]'HJ.out).length ≤ 2 ∧ 1 ≤ (sgR[j]'HJ.out).length := (by decide : ∀ x ∈ sgR, x.length ≤ 2 ∧ 1 ≤ x.length) _ (List.getElem_mem _)
      have hsucc : sgR.take (j + 1) = sgR.take j ++ [sgR[j]'HJ.out] := List.take_succ_eq_append_getElem HJ.out
      have hpi := pre_iff (sgR[j]'HJ.out) l
      generalize sgR[j]'HJ.out = x at *
      have hxz := sB_size x
      clear hE hno
      by_cases hp : x.isPrefixOf l = true
      · obtain ⟨hp1, hp2⟩ := hpi.1 hp
        have HRR := Lib.hid (hh hp HNO.out)
        have heq : (l.take x.length == x) = true := by rw [hp2]; exact beq_self_eq_true x
        have hp3 : (x.length : Int) ≤ (l.length : Int) := by omega
        clear hh hp hpi hp2 hsucc
        go_wp2
        go_quiet (fail)
        go_wp2
        go_ret
        exact ⟨by rw [HRR.out]; rfl, Ext.trans HE1.out (Ext.drewN' HE.out)⟩
      · have hpf : x.isPrefixOf l = false := by
          cases hb : x.isPrefixOf l with
          | false => rfl
          | true => exact absurd hb hp
        have HN2 := Lib.hid (show ∀ y ∈ sgR.take (j + 1), y.isPrefixOf l = false from fun y hy => by
          rw [hsucc] at hy
          rcases List.mem_append.1 hy with h | h
          · exact HNO.out y h
          · obtain rfl := List.mem_singleton.1 h
            exact hpf)
        by_cases hp3 : x.length ≤ l.length
        · have heq : (l.take x.length == x) = false := by
            cases hb : (l.take x.length == x) with
            | false => rfl
            | true => exact absurd (hpi.2 ⟨hp3, eq_of_beq hb⟩) hp
          have hp4 : (x.length : Int) ≤ (l.length : Int) := by omega
          clear hh hp hpi hsucc hpf
          go_wp2
          go_quiet (fail)
          go_wp2
          go_roundw
          case rel => exact ⟨j + 1, by omega, by go_num, HN2.out, Ext.drewN' HE.out⟩
          case measure => simp [intOf]; omega
        · have hp4 : ¬ (x.length : Int) ≤ (l.length : Int) := by omega
          clear hh hp hpi hsucc hpf
          go_wp2
          go_quiet (fail)
          go_wp2
          go_roundw
          case rel => exact ⟨j + 1, by omega, by go_num, HN2.out, Ext.drewN' HE.out⟩
          case measure => simp [intOf]; omega
    · obtain rfl : j = 21 := by omega
      have HRR := Lib.hid (show R = 0 from HNN.out (fun y hy => HNO.out y (by rw [List.take_of_length_le (by rw [sgR_len]; exact Nat.le_refl _)]; exact hy)))
      clear hE hno
      go_wp2
      go_ret
      exact ⟨by rw [HRR.out]; rfl, Ext.trans HE1.out HE.out⟩
set_option maxRecDepth 100000 in
set_option maxHeartbeats 8000000 in
theorem rfKeyword_any (s : List UInt8) (w : World) : Gives Tryz.prog 26 #[sV s] w (.bool (kwB s)) := by
  unfold Gives
  have HH := Lib.hid (fun (h : s ∈ kwL) => (show kwB s = true from List.contains_iff_mem.2 h))
  have HNN := Lib.hid (fun (h : ¬ s ∈ kwL) => (show kwB s = false from by cases hb : kwB s with
    | false => rfl
    | true => exact absurd (List.contains_iff_mem.1 hb) h))
  generalize kwB s = R at *
  go_enter Tryz.func26, Tryz.ntmps26
  go_upto_region 2 with fail
  obtain ⟨w1, hw1⟩ : ∃ W, w.alloc (.cells #[.string { data := #[97, 99, 113, 117, 105, 114, 101] }, .string { data := #[97, 100, 100] }, .string { data := #[97, 110, 121] }, .string { data := #[97, 114, 114, 105, 118, 101] }, .string { data := #[97, 115] }, .string { data := #[97, 115, 115, 101, 114, 116] }, .string { data := #[97, 116, 111, 109, 105, 99] }, .string { data := #[97, 119, 97, 105, 116] }, .string { data := #[98, 97, 114, 114, 105, 101, 114] }, .string { data := #[98, 101, 103, 105, 110] }, .string { data := #[98, 114, 111, 97, 100, 99, 97, 115, 116] }, .string { data := #[98, 117, 100, 103, 101, 116] }, .string { data := #[99, 97, 108, 108] }, .string { data := #[99, 97, 110, 99, 101, 108] }, .string { data := #[99, 104, 97, 110, 110, 101, 108] }, .string { data := #[99, 104, 101, 99, 107, 112, 111, 105, 110, 116] }, .string { data := #[99, 108, 101, 97, 110, 117, 112] }, .string { data := #[99, 108, 111, 115, 101] }, .string { data := #[99, 111, 109, 112, 108, 101, 116, 101] }, .string { data := #[99, 111, 110, 100] }, .string { data := #[100, 101, 97, 100, 108, 105, 110, 101] }, .string { data := #[100, 101, 102, 97, 117, 108, 116] }, .string { data := #[100, 101, 102, 101, 114] }, .string { data := #[101, 108, 115, 101] }, .string { data := #[101, 109, 105, 116] }, .string { data := #[101, 110, 100] }, .string { data := #[101, 118, 101, 114, 121] }, .string { data := #[102, 97, 105, 108] }, .string { data := #[102, 117, 110, 99] }, .string { data := #[102, 117, 116, 117, 114, 101] }, .string { data := #[105, 102] }, .string { data := #[108, 101, 116] }, .string { data := #[108, 105, 109, 105, 116, 101, 114] }, .string { data := #[108, 111, 99, 107] }, .string { data := #[109, 97, 115, 107] }, .string { data := #[109, 117, 116, 101, 120] }, .string { data := #[110, 101, 120, 116] }, .string { data := #[111, 110] }, .string { data := #[112, 114, 105, 111, 114, 105, 116, 121] }, .string { data := #[112, 117, 98, 108, 105, 115, 104] }, .string { data := #[114, 101, 97, 100, 108, 111, 99, 107] }, .string { data := #[114, 101, 97, 100, 117, 110, 108, 111, 99, 107] }, .string { data := #[114, 101, 99, 101, 105, 118, 101] }, .string { data := #[114, 101, 108, 101, 97, 115, 101] }, .string { data := #[114, 101, 112, 101, 97, 116] }, .string { data := #[114, 101, 116, 117, 114, 110] }, .string { data := #[114, 119, 108, 111, 99, 107] }, .string { data := #[115, 99, 111, 112, 101] }, .string { data := #[115, 101, 108, 101, 99, 116] }, .string { data := #[115, 101, 109, 97, 112, 104, 111, 114, 101] }, .string { data := #[115, 101, 110, 100] }, .string { data := #[115, 105, 103, 110, 97, 108] }, .string { data := #[115, 108, 101, 101, 112] }, .string { data := #[115, 112, 97, 119, 110] }, .string { data := #[115, 117, 98, 115, 99, 114, 105, 98, 101] }, .string { data := #[115, 119, 97, 112] }, .string { data := #[116, 97, 107, 101] }, .string { data := #[116, 97, 115, 107] }, .string { data := #[116, 111, 112, 105, 99] }, .string { data := #[116, 114, 121, 97, 99, 113, 117, 105, 114, 101] }, .string { data := #[116, 114, 121, 108, 111, 99, 107] }, .string { data := #[117, 110, 108, 111, 99, 107] }, .string { data := #[117, 110, 115, 117, 98, 115, 99, 114, 105, 98, 101] }, .string { data := #[118, 97, 114] }, .string { data := #[119, 97, 105, 116] }, .string { data := #[119, 104, 105, 108, 101] }, .string { data := #[119, 114, 105, 116, 101, 108, 111, 99, 107] }, .string { data := #[119, 114, 105, 116, 101, 117, 110, 108, 111, 99, 107] }, .string { data := #[121, 105, 101, 108, 100] }] 9) = W := ⟨_, rfl⟩
  rw [hw1]
  have hk := alloc_here w (.cells #[.string { data := #[97, 99, 113, 117, 105, 114, 101] }, .string { data := #[97, 100, 100] }, .string { data := #[97, 110, 121] }, .string { data := #[97, 114, 114, 105, 118, 101] }, .string { data := #[97, 115] }, .string { data := #[97, 115, 115, 101, 114, 116] }, .string { data := #[97, 116, 111, 109, 105, 99] }, .string { data := #[97, 119, 97, 105, 116] }, .string { data := #[98, 97, 114, 114, 105, 101, 114] }, .string { data := #[98, 101, 103, 105, 110] }, .string { data := #[98, 114, 111, 97, 100, 99, 97, 115, 116] }, .string { data := #[98, 117, 100, 103, 101, 116] }, .string { data := #[99, 97, 108, 108] }, .string { data := #[99, 97, 110, 99, 101, 108] }, .string { data := #[99, 104, 97, 110, 110, 101, 108] }, .string { data := #[99, 104, 101, 99, 107, 112, 111, 105, 110, 116] }, .string { data := #[99, 108, 101, 97, 110, 117, 112] }, .string { data := #[99, 108, 111, 115, 101] }, .string { data := #[99, 111, 109, 112, 108, 101, 116, 101] }, .string { data := #[99, 111, 110, 100] }, .string { data := #[100, 101, 97, 100, 108, 105, 110, 101] }, .string { data := #[100, 101, 102, 97, 117, 108, 116] }, .string { data := #[100, 101, 102, 101, 114] }, .string { data := #[101, 108, 115, 101] }, .string { data := #[101, 109, 105, 116] }, .string { data := #[101, 110, 100] }, .string { data := #[101, 118, 101, 114, 121] }, .string { data := #[102, 97, 105, 108] }, .string { data := #[102, 117, 110, 99] }, .string { data := #[102, 117, 116, 117, 114, 101] }, .string { data := #[105, 102] }, .string { data := #[108, 101, 116] }, .string { data := #[108, 105, 109, 105, 116, 101, 114] }, .string { data := #[108, 111, 99, 107] }, .string { data := #[109, 97, 115, 107] }, .string { data := #[109, 117, 116, 101, 120] }, .string { data := #[110, 101, 120, 116] }, .string { data := #[111, 110] }, .string { data := #[112, 114, 105, 111, 114, 105, 116, 121] }, .string { data := #[112, 117, 98, 108, 105, 115, 104] }, .string { data := #[114, 101, 97, 100, 108, 111, 99, 107] }, .string { data := #[114, 101, 97, 100, 117, 110, 108, 111, 99, 107] }, .string { data := #[114, 101, 99, 101, 105, 118, 101] }, .string { data := #[114, 101, 108, 101, 97, 115, 101] }, .string { data := #[114, 101, 112, 101, 97, 116] }, .string { data := #[114, 101, 116, 117, 114, 110] }, .string { data := #[114, 119, 108, 111, 99, 107] }, .string { data := #[115, 99, 111, 112, 101] }, .string { data := #[115, 101, 108, 101, 99, 116] }, .string { data := #[115, 101, 109, 97, 112, 104, 111, 114, 101] }, .string { data := #[115, 101, 110, 100] }, .string { data := #[115, 105, 103, 110, 97, 108] }, .string { data := #[115, 108, 101, 101, 112] }, .string { data := #[115, 112, 97, 119, 110] }, .string { data := #[115, 117, 98, 115, 99, 114, 105, 98, 101] }, .string { data := #[115, 119, 97, 112] }, .string { data := #[116, 97, 107, 101] }, .string { data := #[116, 97, 115, 107] }, .string { data := #[116, 111, 112, 105, 99] }, .string { data := #[116, 114, 121, 97, 99, 113, 117, 105, 114, 101] }, .string { data := #[116, 114, 121, 108, 111, 99, 107] }, .string { data := #[117, 110, 108, 111, 99, 107] }, .string { data := #[117, 110, 115, 117, 98, 115, 99, 114, 105, 98, 101] }, .string { data := #[118, 97, 114] }, .string { data := #[119, 97, 105, 116] }, .string { data := #[119, 104, 105, 108, 101] }, .string { data := #[119, 114, 105, 116, 101, 108, 111, 99, 107] }, .string { data := #[119, 114, 105, 116, 101, 117, 110, 108, 111, 99, 107] }, .string { data := #[121, 105, 101, 108, 100] }] 9)
  rw [hw1] at hk
  have HK := Lib.hid (fun (j : Nat) (h : j < kwL.length) => (show w1.cell? ⟨w.heap.size, j, none⟩ = some (sV kwL[j]) from cell_of hk (by
    have e : (#[.string { data := #[97, 99, 113, 117, 105, 114, 101] }, .string { data := #[97, 100, 100] }, .string { data := #[97, 110, 121] }, .string { data := #[97, 114, 114, 105, 118, 101] }, .string { data := #[97, 115] }, .string { data := #[97, 115, 115, 101, 114, 116] }, .string { data := #[97, 116, 111, 109, 105, 99] }, .string { data := #[97, 119, 97, 105, 116] }, .string { data := #[98, 97, 114, 114, 105, 101, 114] }, .string { data := #[98, 101, 103, 105, 110] }, .string { data := #[98, 114, 111, 97, 100, 99, 97, 115, 116] }, .string { data := #[98, 117, 100, 103, 101, 116] }, .string { data := #[99, 97, 108, 108] }, .string { data := #[99, 97, 110, 99, 101, 108] }, .string { data := #[99, 104, 97, 110, 110, 101, 108] }, .string { data := #[99, 104, 101, 99, 107, 112, 111, 105, 110, 116] }, .string { data := #[99, 108, 101, 97, 110, 117, 112] }, .string { data := #[99, 108, 111, 115, 101] }, .string { data := #[99, 111, 109, 112, 108, 101, 116, 101] }, .string { data := #[99, 111, 110, 100] }, .string { data := #[100, 101, 97, 100, 108, 105, 110, 101] }, .string { data := #[100, 101, 102, 97, 117, 108, 116] }, .string { data := #[100, 101, 102, 101, 114] }, .string { data := #[101, 108, 115, 101] }, .string { data := #[101, 109, 105, 116] }, .string { data := #[101, 110, 100] }, .string { data := #[101, 118, 101, 114, 121] }, .string { data := #[102, 97, 105, 108] }, .string { data := #[102, 117, 110, 99] }, .string { data := #[102, 117, 116, 117, 114, 101] }, .string { data := #[105, 102] }, .string { data := #[108, 101, 116] }, .string { data := #[108, 105, 109, 105, 116, 101, 114] }, .string { data := #[108, 111, 99, 107] }, .string { data := #[109, 97, 115, 107] }, .string { data := #[109, 117, 116, 101, 120] }, .string { data := #[110, 101, 120, 116] }, .string { data := #[111, 110] }, .string { data := #[112, 114, 105, 111, 114, 105, 116, 121] }, .string { data := #[112, 117, 98, 108, 105, 115, 104] }, .string { data := #[114, 101, 97, 100, 108, 111, 99, 107] }, .string { data := #[114, 101, 97, 100, 117, 110, 108, 111, 99, 107] }, .string { data := #[114, 101, 99, 101, 105, 118, 101] }, .string { data := #[114, 101, 108, 101, 97, 115, 101] }, .string { data := #[114, 101, 112, 101, 97, 116] }, .string { data := #[114, 101, 116, 117, 114, 110] }, .string { data := #[114, 119, 108, 111, 99, 107] }, .string { data := #[115, 99, 111, 112, 101] }, .string { data := #[115, 101, 108, 101, 99, 116] }, .string { data := #[115, 101, 109, 97, 112, 104, 111, 114, 101] }, .string { data := #[115, 101, 110, 100] }, .string { data := #[115, 105, 103, 110, 97, 108] }, .string { data := #[115, 108, 101, 101, 112] }, .string { data := #[115, 112, 97, 119, 110] }, .string { data := #[115, 117, 98, 115, 99, 114, 105, 98, 101] }, .string { data := #[115, 119, 97, 112] }, .string { data := #[116, 97, 107, 101] }, .string { data := #[116, 97, 115, 107] }, .string { data := #[116, 111, 112, 105, 99] }, .string { data := #[116, 114, 121, 97, 99, 113, 117, 105, 114, 101] }, .string { data := #[116, 114, 121, 108, 111, 99, 107] }, .string { data := #[117, 110, 108, 111, 99, 107] }, .string { data := #[117, 110, 115, 117, 98, 115, 99, 114, 105, 98, 101] }, .string { data := #[118, 97, 114] }, .string { data := #[119, 97, 105, 116] }, .string { data := #[119, 104, 105, 108, 101] }, .string { data := #[119, 114, 105, 116, 101, 108, 111, 99, 107] }, .string { data := #[119, 114, 105, 116, 101, 117, 110, 108, 111, 99, 107] }, .string { data := #[121, 105, 101, 108, 100] }] : Array Value) = (kwL.map sV).toArray := rfl
    rw [e, List.getElem?_toArray, List.getElem?_map, List.getElem?_eq_getElem h]; rfl)))
  have HE1 := Lib.hid (show Ext w w1 from by rw [← hw1]; exact ext_alloc _ _)
  clear hw1 hk
  generalize w.heap.size = B at *
  go_wp2
  go_loopw [4] (fun i wr => ∃ j : Nat, j ≤ 69 ∧ i = .int .i64 (j : Int) ∧ ¬ s ∈ kwL.take j ∧ Ext w1 wr) (fun i _ => 69 - (intOf i).toNat)
  case atStart => exact ⟨0, Nat.zero_le _, rfl, (fun h => by cases h), Below.refl _ _⟩
  case round =>
    obtain ⟨j, hj, rfl, hno, hE⟩ := hrel
    have HE := Lib.hid hE
    have HNO := Lib.hid hno
    by_cases hlt : j < 69
    · have HJ := Lib.hid (show j < kwL.length from hlt)
      have z0 := Ext.cellE (HK.out j HJ.out) hE
      have hm : kwL[j]'HJ.out ∈ kwL := List.getElem_mem _
      have hsucc : kwL.take (j + 1) = kwL.take j ++ [kwL[j]'HJ.out] := List.take_succ_eq_append_getElem HJ.out
      generalize kwL[j]'HJ.out = x at *
      clear hE hno
      by_cases hp : x = s
      · subst hp
        have HRR := Lib.hid (HH.out hm)
        have heq : (x == x) = true := beq_self_eq_true x
        clear hm hsucc
        go_wp2
        go_ret
        exact ⟨by rw [HRR.out]; rfl, Ext.trans HE1.out HE.out⟩
      · have heq : (x == s) = false := by
          cases hb : (x == s) with
          | false => rfl
          | true => exact absurd (eq_of_beq hb) hp
        have HN2 := Lib.hid (show ¬ s ∈ kwL.take (j + 1) from fun hy => by
          rw [hsucc] at hy
          rcases List.mem_append.1 hy with h | h
          · exact HNO.out h
          · exact hp (List.mem_singleton.1 h).symm)
        clear hm hsucc hp
        go_wp2
        go_roundw
        case rel => exact ⟨j + 1, by omega, by go_num, HN2.out, HE.out⟩
        case measure => simp [intOf]; omega
    · obtain rfl : j = 69 := by omega
      have HRR := Lib.hid (show R = false from HNN.out (fun h => HNO.out (by rw [List.take_of_length_le (by rw [kwL_len]; exact Nat.le_refl _)]; exact h)))
      clear hE hno
      go_wp2
      go_ret
      exact ⟨by rw [HRR.out]; rfl, Ext.trans HE1.out HE.out⟩
end Go.Proofs.YtmokejjndkibhaaGreatDoor

namespace Go.Proofs.YtmokejjndkibhaaGreatDoor
open Go.RowKit Ex
set_option linter.unusedVariables false
set_option linter.unusedSimpArgs false

def grL : List (List UInt8 × Nat × Nat) := [([43], 3, 4), ([45], 4, 4), ([42], 5, 5), ([47], 6, 5), ([37], 7, 5), ([61, 61], 8, 3), ([33, 61], 9, 3), ([60], 10, 3), ([60, 61], 11, 3), ([62], 12, 3), ([62, 61], 13, 3), ([38, 38], 14, 2), ([124, 124], 15, 1)]
theorem gr_lx : ∀ x ∈ grL, lxF x.1 = ((x.2.1 : Int), (x.2.2 : Int)) ∧ 1 ≤ x.2.2 ∧ x.2.2 ≤ 5 ∧ 3 ≤ x.2.1 ∧ x.2.1 ≤ 15 ∧ 1 ≤ x.1.length ∧ x.1.length ≤ 2 := by decide +kernel
end Go.Proofs.YtmokejjndkibhaaGreatDoor

namespace Go.Proofs.YtmokejjndkibhaaGreatDoor
open Go.RowKit Go.Shelf Ex
set_option linter.unusedVariables false
set_option linter.unusedSimpArgs false

set_option maxRecDepth 100000 in
set_option maxHeartbeats 2000000 in
theorem rfNumberQ_any (s : List UInt8) (hd : DigsL s) (hs : s.length ≤ 140737488351232) (w : World) : Calls Tryz.prog 77 #[sV s] w fun e w' => e = .returned (.int .i64 (satV 0 s)) ∧ w' = w := by
  have hsz := sB_size s
  obtain ⟨R, hR⟩ : ∃ R, satV 0 s = R := ⟨_, rfl⟩
  rw [hR]
  have HR := Lib.hid hR
  have HD := Lib.hid (fun k (h : k < s.length) => hd s[k] (List.getElem_mem h))
  clear hR hd
  go_enter Tryz.func77, Tryz.ntmps77
  go_wp2
  go_loopw [3, 4] (fun u i wr => ∃ (j : Nat) (N : Int), j ≤ s.length ∧ i = .int .i64 (j : Int) ∧ u = .int .i64 N ∧ 0 ≤ N ∧ N ≤ 10995116277769 ∧ satV N (s.drop j) = R ∧ wr = w) (fun _ i _ => s.length - (intOf i).toNat)
  case atStart => exact ⟨0, 0, Nat.zero_le _, rfl, rfl, by omega, by omega, HR.out, rfl⟩
  case round =>
    obtain ⟨j, N, hj, rfl, rfl, h0, h1, hN, rfl⟩ := hrel
    by_cases hlt : j < s.length
    · have hd := HD.out j hlt
      rw [List.drop_eq_getElem_cons hlt, satV] at hN
      obtain ⟨c, hc⟩ : ∃ c : Nat, (s[j]).toNat = c := ⟨_, rfl⟩
      rw [hc] at hN hd
      have hu := u8_sub hd.1 hd.2
      obtain ⟨hd1, hd2⟩ := hd
      by_cases hN1 : N ≤ 1099511627776
      · rw [if_pos hN1] at hN
        have HN := Lib.hid hN
        clear hN
        go_wp2
        go_roundw
        case rel => exact ⟨j + 1, N * 10 + ((c : Int) - 48), by omega, by go_num, by first | rfl | (congr 1; omega) | go_num, by omega, by omega, HN.out, by first | rfl | trivial⟩
        case measure => simp [intOf]; omega
      · rw [if_neg hN1] at hN
        clear hd1 hd2 hu
        subst hN
        go_wp2
        go_ret
        exact ⟨rfl, rfl⟩
    · obtain rfl : j = s.length := by omega
      rw [List.drop_eq_nil_of_le (Nat.le_refl _), satV] at hN
      subst hN
      go_wp2
      go_ret
      exact ⟨rfl, rfl⟩

set_option maxRecDepth 100000 in
set_option maxHeartbeats 2000000 in
theorem rfIs_any (t : Tk) (x : List UInt8) (w : World) : Gives Tryz.prog 96 #[TV t, sV x] w (.bool (decide (t.kind = 3 ∧ t.text = x))) := by
  unfold Gives
  obtain ⟨tk, tx, tv, tp⟩ := t
  dsimp only [TV]
  by_cases h1 : tk = 3
  · by_cases h2 : tx = x
    · have HB := Lib.hid (show decide (tk = 3 ∧ tx = x) = true from decide_eq_true ⟨h1, h2⟩)
      rw [HB.out]
      subst h1 h2
      have heq : (tx == tx) = true := beq_self_eq_true tx
      go_enter Tryz.func96, Tryz.ntmps96
      go_wp2
      go_ret
      exact ⟨by first | rfl | simp, (Below.refl _ w).alloc (Nat.le_refl _) _⟩
    · have HB := Lib.hid (show decide (tk = 3 ∧ tx = x) = false from decide_eq_false (fun e => h2 e.2))
      rw [HB.out]
      subst h1
      have heq : (tx == x) = false := by
        cases hb : (tx == x) with
        | false => rfl
        | true => exact absurd (eq_of_beq hb) h2
      clear h2
      go_enter Tryz.func96, Tryz.ntmps96
      go_wp2
      go_ret
      exact ⟨by first | rfl | simp [heq], (Below.refl _ w).alloc (Nat.le_refl _) _⟩
  · have HB := Lib.hid (show decide (tk = 3 ∧ tx = x) = false from decide_eq_false (fun e => h1 e.1))
    rw [HB.out]
    have hk : (tk == 3) = false := by simpa using h1
    clear h1
    go_enter Tryz.func96, Tryz.ntmps96
    go_wp2
    go_ret
    exact ⟨by first | rfl | simp [hk], (Below.refl _ w).alloc (Nat.le_refl _) _⟩
set_option maxRecDepth 100000 in
set_option maxHeartbeats 2000000 in
theorem rfNext_any (l : List Tk) (p : Option Addr) (c k : Nat) (w : World) (hP : TkRow w p l) (hl : l.length ≤ 1000000) (hk : k ≤ 1000000) : Gives Tryz.prog 66 #[.slice p l.length c, .int .i64 (k : Int)] w (TV (l.getD k tk0)) := by
  unfold Gives
  by_cases hlt : k < l.length
  · have hg : l.getD k tk0 = l[k] := by rw [List.getD_eq_getElem?_getD, List.getElem?_eq_getElem hlt]; rfl
    rw [hg]
    obtain ⟨b, o, rfl, c0, c1, c2, c3⟩ := hP k hlt
    generalize l[k] = t at *
    obtain ⟨tk, tx, tv, tp⟩ := t
    dsimp only [TV] at c0 c1 c2 c3 ⊢
    generalize l.length = n at *
    have hbl : b < w.heap.size := cell_lt' c0
    have hk0 : (0 : Int) ≤ (k : Int) := by omega
    have hkn : (k : Int) < (n : Int) := by omega
    have hb := alloc_here w (.cells #[.int .i64 tk, sV tx, .int .i64 tv, .int .i64 tp] 36)
    have HE := Lib.hid (ext_alloc w (.cells #[.int .i64 tk, sV tx, .int .i64 tv, .int .i64 tp] 36))
    have HB := Lib.hid hb
    clear hb
    go_enter Tryz.func66, Tryz.ntmps66
    go_wp2
    have z0 := cell_of (i := 0) HB.out rfl
    have z1 := cell_of (i := 1) HB.out rfl
    have z2 := cell_of (i := 2) HB.out rfl
    have z3 := cell_of (i := 3) HB.out rfl
    exact bodyPost_ret (v := .agg #[.int .i64 tk, sV tx, .int .i64 tv, .int .i64 tp]) (by simp [results, Tryz.f66, go_sem, z0, z1, z2, z3]) rfl ⟨rfl, HE.out⟩
  · have hg : l.getD k tk0 = tk0 := by rw [List.getD_eq_getElem?_getD, List.getElem?_eq_none (by omega)]; rfl
    rw [hg]
    generalize l.length = n at *
    have hkn : ¬ (k : Int) < (n : Int) := by omega
    have hb := alloc_here w (.cells #[.int .i64 0, .string { data := #[] }, .int .i64 0, .int .i64 0] 36)
    have HE := Lib.hid (ext_alloc w (.cells #[.int .i64 0, .string { data := #[] }, .int .i64 0, .int .i64 0] 36))
    have HB := Lib.hid hb
    clear hb hP
    go_enter Tryz.func66, Tryz.ntmps66
    go_wp2
    have z0 := cell_of (i := 0) HB.out rfl
    have z1 := cell_of (i := 1) HB.out rfl
    have z2 := cell_of (i := 2) HB.out rfl
    have z3 := cell_of (i := 3) HB.out rfl
    exact bodyPost_ret (v := .agg #[.int .i64 0, .string { data := #[] }, .int .i64 0, .int .i64 0]) (by simp [results, Tryz.f66, go_sem, z0, z1, z2, z3]) rfl ⟨rfl, HE.out⟩
/-- the operator of a token, and its precedence -/
def opT (t : Tk) : Int × Int := if t.kind = 3 then lxF t.text else (0, 0)
theorem grL_none {x : List UInt8} (h : ∀ y ∈ grL, y.1 ≠ x) : lxF x = (0, 0) := by
  have hk : ∀ p ∈ lxL, ∃ y ∈ grL, y.1 = p.1 := by decide
  unfold lxF
  rw [List.find?_eq_none.2 (fun p hp e => by
    obtain ⟨y, hy, he⟩ := hk p hp
    exact h y hy (he.trans (eq_of_beq e)))]
  rfl
theorem grL_ops : ∀ (j : Nat) (h : j < 13), (grL[j]'h).2.1 = 3 + j := by
  intro j h
  match j, h with
  | 0, _ | 1, _ | 2, _ | 3, _ | 4, _ | 5, _ | 6, _ | 7, _ | 8, _ | 9, _ | 10, _ | 11, _ | 12, _ => rfl
set_option maxRecDepth 100000 in
set_option maxHeartbeats 4000000 in
theorem rfOperator_any (t : Tk) (w : World) : Gives Tryz.prog 65 #[TV t] w (.tuple #[.int .i64 (opT t).1, .int .i64 (opT t).2]) := by
  unfold Gives
  obtain ⟨tk, tx, tv, tp⟩ := t
  dsimp only [TV]
  obtain ⟨R, hR⟩ : ∃ R, opT ⟨tk, tx, tv, tp⟩ = R := ⟨_, rfl⟩
  rw [hR]
  unfold opT at hR
  dsimp only at hR
  by_cases h3 : tk = 3
  · rw [if_pos h3] at hR
    subst h3
    have HH := Lib.hid (fun (j : Nat) (hj : j < 13) => (show (grL[j]'hj).1 = tx → R = ((3 : Int) + (j : Int), ((grL[j]'hj).2.2 : Int)) from fun e => by
      have h1 := (gr_lx _ (List.getElem_mem (show j < grL.length from hj))).1
      have h2 : lxF tx = ((((grL[j]'hj).2.1 : Nat) : Int), (((grL[j]'hj).2.2 : Nat) : Int)) := by rw [← e]; exact h1
      rw [← hR, h2, grL_ops j hj]; simp))
    have HNN := Lib.hid (fun h => (show R = (0, 0) from by rw [← hR]; exact grL_none (x := tx) h))
    clear hR
    obtain ⟨R1, R2⟩ := R
    dsimp only
    have hb := alloc_here w (.cells #[.int .i64 3, sV tx, .int .i64 tv, .int .i64 tp] 36)
    have HB := Lib.hid hb
    clear hb
    go_enter Tryz.func65, Tryz.ntmps65
    go_upto_region 5 with fail
    obtain ⟨w1, hw1⟩ : ∃ W, (((w.alloc (.cells #[.int .i64 3, sV tx, .int .i64 tv, .int .i64 tp] 36)).alloc (.cells #[.string { data := #[43] }, .string { data := #[45] }, .string { data := #[42] }, .string { data := #[47] }, .string { data := #[37] }, .string { data := #[61, 61] }, .string { data := #[33, 61] }, .string { data := #[60] }, .string { data := #[60, 61] }, .string { data := #[62] }, .string { data := #[62, 61] }, .string { data := #[38, 38] }, .string { data := #[124, 124] }] 9)).alloc (.cells #[.int .i64 4, .int .i64 4, .int .i64 5, .int .i64 5, .int .i64 5, .int .i64 3, .int .i64 3, .int .i64 3, .int .i64 3, .int .i64 3, .int .i64 3, .int .i64 2, .int .i64 1] 3)) = W := ⟨_, rfl⟩
    rw [hw1]
    have hk2 := alloc_here ((w.alloc (.cells #[.int .i64 3, sV tx, .int .i64 tv, .int .i64 tp] 36)).alloc (.cells #[.string { data := #[43] }, .string { data := #[45] }, .string { data := #[42] }, .string { data := #[47] }, .string { data := #[37] }, .string { data := #[61, 61] }, .string { data := #[33, 61] }, .string { data := #[60] }, .string { data := #[60, 61] }, .string { data := #[62] }, .string { data := #[62, 61] }, .string { data := #[38, 38] }, .string { data := #[124, 124] }] 9)) (.cells #[.int .i64 4, .int .i64 4, .int .i64 5, .int .i64 5, .int .i64 5, .int .i64 3, .int .i64 3, .int .i64 3, .int .i64 3, .int .i64 3, .int .i64 3, .int .i64 2, .int .i64 1] 3)
    rw [hw1, World.size_alloc, World.size_alloc] at hk2
    have hk1 : w1.heap[w.heap.size + 1]? = some (.cells #[.string { data := #[43] }, .string { data := #[45] }, .string { data := #[42] }, .string { data := #[47] }, .string { data := #[37] }, .string { data := #[61, 61] }, .string { data := #[33, 61] }, .string { data := #[60] }, .string { data := #[60, 61] }, .string { data := #[62] }, .string { data := #[62, 61] }, .string { data := #[38, 38] }, .string { data := #[124, 124] }] 9 (0, 0)) := by
      rw [← hw1, Below.heap_alloc _ _ _ (by rw [World.size_alloc, World.size_alloc]; omega)]
      have := alloc_here (w.alloc (.cells #[.int .i64 3, sV tx, .int .i64 tv, .int .i64 tp] 36)) (.cells #[.string { data := #[43] }, .string { data := #[45] }, .string { data := #[42] }, .string { data := #[47] }, .string { data := #[37] }, .string { data := #[61, 61] }, .string { data := #[33, 61] }, .string { data := #[60] }, .string { data := #[60, 61] }, .string { data := #[62] }, .string { data := #[62, 61] }, .string { data := #[38, 38] }, .string { data := #[124, 124] }] 9)
      rw [World.size_alloc] at this; exact this
    have hk0 : w1.heap[w.heap.size]? = some (.cells #[.int .i64 3, sV tx, .int .i64 tv, .int .i64 tp] 36 (0, 0)) := by
      rw [← hw1, Below.heap_alloc _ _ _ (by rw [World.size_alloc, World.size_alloc]; omega), Below.heap_alloc _ _ _ (by rw [World.size_alloc]; omega)]
      exact HB.out
    have HK1 := Lib.hid (fun (j : Nat) (h : j < 13) => (show w1.cell? ⟨w.heap.size + 1, j, none⟩ = some (sV (grL[j]'h).1) from cell_of hk1 (by
      have e : (#[.string { data := #[43] }, .string { data := #[45] }, .string { data := #[42] }, .string { data := #[47] }, .string { data := #[37] }, .string { data := #[61, 61] }, .string { data := #[33, 61] }, .string { data := #[60] }, .string { data := #[60, 61] }, .string { data := #[62] }, .string { data := #[62, 61] }, .string { data := #[38, 38] }, .string { data := #[124, 124] }] : Array Value) = (grL.map (fun x => sV x.1)).toArray := rfl
      rw [e, List.getElem?_toArray, List.getElem?_map, List.getElem?_eq_getElem (show j < grL.length from h)]; rfl)))
    have HK2 := Lib.hid (fun (j : Nat) (h : j < 13) => (show w1.cell? ⟨w.heap.size + 1 + 1, j, none⟩ = some (.int .i64 ((grL[j]'h).2.2 : Int)) from cell_of hk2 (by
      have e : (#[.int .i64 4, .int .i64 4, .int .i64 5, .int .i64 5, .int .i64 5, .int .i64 3, .int .i64 3, .int .i64 3, .int .i64 3, .int .i64 3, .int .i64 3, .int .i64 2, .int .i64 1] : Array Value) = (grL.map (fun x => Value.int .i64 (x.2.2 : Int))).toArray := rfl
      rw [e, List.getElem?_toArray, List.getElem?_map, List.getElem?_eq_getElem (show j < grL.length from h)]; rfl)))
    have HK0 := Lib.hid (cell_of (i := 1) hk0 rfl)
    have HE1 := Lib.hid (show Ext w w1 from by rw [← hw1]; exact (((Below.refl _ w).alloc (Nat.le_refl _) _).alloc (by simp) _).alloc (by simp; omega) _)
    clear hw1 hk0 hk1 hk2
    go_wp2
    go_loopw [6] (fun i wr => ∃ j : Nat, j ≤ 13 ∧ i = .int .i64 (j : Int) ∧ (∀ y ∈ grL.take j, y.1 ≠ tx) ∧ Ext w1 wr) (fun i _ => 13 - (intOf i).toNat)
    case atStart => exact ⟨0, Nat.zero_le _, rfl, (fun y h => by simp at h), Below.refl _ _⟩
    case round =>
      obtain ⟨j, hj, rfl, hno, hE⟩ := hrel
      have HE := Lib.hid hE
      have HNO := Lib.hid hno
      by_cases hlt : j < 13
      · have z1 := Ext.cellE (HK1.out j hlt) hE
        have z2 := Ext.cellE (HK2.out j hlt) hE
        have z0 := Ext.cellE HK0.out hE
        have hh := HH.out j hlt
        have hsucc : grL.take (j + 1) = grL.take j ++ [grL[j]'hlt] := List.take_succ_eq_append_getElem (show j < grL.length from hlt)
        generalize grL[j]'hlt = x at *
        obtain ⟨sx, ox, px⟩ := x
        dsimp only at z1 z2 hh hsucc
        clear hE hno
        by_cases hp : sx = tx
        · subst hp
          have HRR := Lib.hid (hh rfl)
          have heq : (sx == sx) = true := beq_self_eq_true sx
          clear hh hsucc
          go_wp2
          go_quiet (fail)
          go_wp2
          go_quiet (fail)
          go_wp2
          go_ret2
          exact ⟨by have h := HRR.out; simp only [Prod.mk.injEq] at h; rw [h.1, h.2]; rfl, Ext.trans HE1.out (Ext.drewN' (Ext.drewN' HE.out))⟩
        · have heq : (sx == tx) = false := by
            cases hb : (sx == tx) with
            | false => rfl
            | true => exact absurd (eq_of_beq hb) hp
          have HN2 := Lib.hid (show ∀ y ∈ grL.take (j + 1), y.1 ≠ tx from fun y hy => by
            rw [hsucc] at hy
            rcases List.mem_append.1 hy with h | h
            · exact HNO.out y h
            · obtain rfl := List.mem_singleton.1 h
              exact hp)
          clear hh hp hsucc
          go_wp2
          go_quiet (fail)
          go_wp2
          go_roundw
          case rel => exact ⟨j + 1, by omega, by go_num, HN2.out, Ext.drewN' HE.out⟩
          case measure => simp [intOf]; omega
      · obtain rfl : j = 13 := by omega
        have HRR := Lib.hid (HNN.out (fun y hy => HNO.out y (by rw [List.take_of_length_le (by rw [show grL.length = 13 from rfl]; exact Nat.le_refl _)]; exact hy)))
        clear hE hno
        go_wp2
        go_ret2
        exact ⟨by have h := HRR.out; simp only [Prod.mk.injEq] at h; rw [h.1, h.2]; rfl, Ext.trans HE1.out HE.out⟩
  · rw [if_neg h3] at hR
    subst hR
    have hk : (tk == 3) = false := by simpa using h3
    have hk2 : (tk != 3) = true := by simpa using h3
    clear h3
    go_enter Tryz.func65, Tryz.ntmps65
    go_wp2
    go_ret2
    exact ⟨rfl, (Below.refl _ w).alloc (Nat.le_refl _) _⟩
end Go.Proofs.YtmokejjndkibhaaGreatDoor

namespace Go.Proofs.YtmokejjndkibhaaGreatDoor
open Go.RowKit Go.Shelf Ex
set_option linter.unusedVariables false
set_option linter.unusedSimpArgs false
attribute [local go_sem] sB_extract

theorem okAt_ins {j : Nat} {c : UInt8} (h : insC c = true) (h0 : j = 0 → letB c = true) : okAt j c = true := by
  unfold okAt letter other
  unfold insC digB at h
  by_cases hj : j = 0
  · have := h0 hj
    unfold letB at this
    simp [of_decide_eq_true this]
  · unfold letB at h
    simp only [Bool.or_eq_true, decide_eq_true_eq] at h
    simp [hj]
    omega
theorem nm_mk {s : List UInt8} (h : ∀ c ∈ s, insC c = true) (h1 : 1 ≤ s.length) (h2 : s.length ≤ 30) (h0 : letB s[0] = true) : isNm s = true := by
  have : ∀ j, j ≤ s.length → okTo s j = true := by
    intro j
    induction j with
    | zero => intro _; rfl
    | succ j ih =>
      intro hj
      refine okTo_yes s j (by omega) (ih (by omega)) (okAt_ins (h _ (List.getElem_mem _)) (fun e => ?_))
      subst e; exact h0
  rw [isNm_end s (this _ (Nat.le_refl _))]
  simp; omega
set_option maxRecDepth 100000 in
set_option maxHeartbeats 4000000 in
theorem rfName_any (s : List UInt8) (hs : s.length ≤ 140737488351232) (w : World) : Gives Tryz.prog 95 #[sV s] w (.bool (isNm s)) := by
  unfold Gives
  have hsz := sB_size s
  have HALL := Lib.hid (fun h => (nm_all (x := s) h))
  have HMK := Lib.hid (fun h h1 h2 h0 => nm_mk (s := s) h h1 h2 h0)
  obtain ⟨R, hR⟩ : ∃ R, isNm s = R := ⟨_, rfl⟩
  rw [hR]
  have HR := Lib.hid hR
  clear hR
  go_enter Tryz.func95, Tryz.ntmps95
  go_wp2
  go_loopw [3] (fun i wr => ∃ j : Nat, j ≤ s.length ∧ i = .int .i64 (j : Int) ∧ (∀ k (hk : k < s.length), k < j → insC s[k] = true) ∧ Ext w wr) (fun i _ => s.length - (intOf i).toNat)
  case atStart => exact ⟨0, Nat.zero_le _, rfl, fun k _ h => by omega, Below.refl _ _⟩
  case round =>
    obtain ⟨j, hj, rfl, hno, hE⟩ := hrel
    have HE := Lib.hid hE
    have HNO := Lib.hid hno
    clear hE hno
    by_cases hlt : j < s.length
    · have hq : j < (sB s).size := by omega
      obtain ⟨b, hb⟩ : ∃ b, insC (s[j]'hlt) = b := ⟨_, rfl⟩
      have HB := Lib.hid hb
      have K := Lib.hid (fun W => (show Gives Tryz.prog 75 #[.int .u8 ((s[j]'hlt).toNat : Int)] W (.bool b) from by rw [← hb]; exact rfInside_any _ W))
      clear hb
      cases b with
      | true =>
        go_wp2_with fail
        refine (K.out _).mono ?_
        intro w1 hE
        have HE1 := Lib.hid (Ext.trans HE.out hE)
        clear hE
        go_wp2
        go_roundw
        case rel => exact ⟨j + 1, by omega, by go_num, fun k hk h => by
          by_cases e : k = j
          · subst e; exact HB.out
          · exact HNO.out k hk (by omega), HE1.out⟩
        case measure => simp [intOf]; omega
      | false =>
        have HRF := Lib.hid (show R = false from by
          cases hr : R with
          | false => rfl
          | true =>
            have := (HALL.out (by rw [HR.out, hr])).2.1 (s[j]'hlt) (List.getElem_mem _)
            rw [HB.out] at this; cases this)
        go_wp2_with fail
        refine (K.out _).mono ?_
        intro w1 hE
        have HE1 := Lib.hid (Ext.trans HE.out hE)
        clear hE
        go_wp2
        go_ret
        exact ⟨by rw [HRF.out]; rfl, HE1.out⟩
    · obtain rfl : j = s.length := by omega
      have HIN := Lib.hid (show ∀ c ∈ s, insC c = true from fun c hc => by
        obtain ⟨k, hk, rfl⟩ := List.getElem_of_mem hc
        exact HNO.out k hk hk)
      by_cases h1 : 1 ≤ s.length
      · by_cases h30 : s.length ≤ 30
        · have hq0 : 0 < (sB s).size := by omega
          obtain ⟨b, hb⟩ : ∃ b, letB (s[0]'(by omega)) = b := ⟨_, rfl⟩
          have HB := Lib.hid hb
          have K := Lib.hid (fun W => (show Gives Tryz.prog 74 #[.int .u8 ((s[0]'(by omega)).toNat : Int)] W (.bool b) from by rw [← hb]; exact rfLetter_any _ W))
          have HRB := Lib.hid (show R = b from by
            rw [← HR.out]
            cases b with
            | true => exact HMK.out HIN.out h1 h30 hb
            | false =>
              cases hr : isNm s with
              | false => rfl
              | true =>
                obtain ⟨_, _, c, r, he, hc⟩ := HALL.out hr
                subst he
                rw [show (c :: r)[0] = c from rfl] at hb
                rw [hc] at hb; cases hb)
          clear hb
          go_wp2_with fail
          refine (K.out _).mono ?_
          intro w1 hE
          have HE1 := Lib.hid (Ext.trans HE.out hE)
          clear hE
          go_wp2
          go_ret
          exact ⟨by rw [HRB.out]; rfl, HE1.out⟩
        · have HRF := Lib.hid (show R = false from by
            cases hr : R with
            | false => rfl
            | true => have := (HALL.out (by rw [HR.out, hr])).1; omega)
          go_wp2
          go_ret
          exact ⟨by rw [HRF.out]; rfl, HE.out⟩
      · have HRF := Lib.hid (show R = false from by
          cases hr : R with
          | false => rfl
          | true =>
            obtain ⟨_, _, c, r, he, _⟩ := HALL.out (by rw [HR.out, hr])
            rw [he] at h1; simp at h1)
        go_wp2
        go_ret
        exact ⟨by rw [HRF.out]; rfl, HE.out⟩
end Go.Proofs.YtmokejjndkibhaaGreatDoor

namespace Go.Proofs.YtmokejjndkibhaaGreatDoor
open Go.RowKit Go.Shelf Ex
set_option linter.unusedVariables false
set_option linter.unusedSimpArgs false
attribute [local go_sem] sB_extract

theorem digsT_no {t : Tk} (h : ¬ ((∀ c ∈ t.text, digB c = true) ∧ t.text ≠ [] ∧ (t.text.length = 1 ∨ ∀ c, t.text.head? = some c → c.toNat ≠ 48) ∧ 0 ≤ t.val ∧ t.val ≤ 1099511627776 ∧ satV 0 t.text = t.val)) : numOk t = false := by
  rw [← digsT_eq]; exact decide_eq_false h
theorem digsT_yes {t : Tk} (h : (∀ c ∈ t.text, digB c = true) ∧ t.text ≠ [] ∧ (t.text.length = 1 ∨ ∀ c, t.text.head? = some c → c.toNat ≠ 48) ∧ 0 ≤ t.val ∧ t.val ≤ 1099511627776 ∧ satV 0 t.text = t.val) : numOk t = true := by
  rw [← digsT_eq]; exact decide_eq_true h
set_option maxRecDepth 100000 in
set_option maxHeartbeats 8000000 in
theorem rfDigits_any (t : Tk) (hs : t.text.length ≤ 140737488351232) (w : World) : Gives Tryz.prog 94 #[TV t] w (.bool (numOk t)) := by
  unfold Gives
  obtain ⟨R, hR⟩ : ∃ R, numOk t = R := ⟨_, rfl⟩
  rw [hR]
  have HN := Lib.hid (fun h => (digsT_no (t := t) h).symm.trans hR)
  have HY := Lib.hid (fun h => (digsT_yes (t := t) h).symm.trans hR)
  clear hR
  obtain ⟨tk, tx, tv, tp⟩ := t
  dsimp only [TV] at *
  have hsz := sB_size tx
  have hb := alloc_here w (.cells #[.int .i64 tk, sV tx, .int .i64 tv, .int .i64 tp] 36)
  have HB := Lib.hid hb
  have HE0 := Lib.hid (ext_alloc w (.cells #[.int .i64 tk, sV tx, .int .i64 tv, .int .i64 tp] 36))
  clear hb
  go_enter Tryz.func94, Tryz.ntmps94
  go_wp2
  obtain ⟨w1, hw1⟩ : ∃ W, w.alloc (.cells #[.int .i64 tk, sV tx, .int .i64 tv, .int .i64 tp] 36) = W := ⟨_, rfl⟩
  rw [hw1] at HB HE0 ⊢
  clear hw1
  go_loopw [3] (fun i wr => ∃ j : Nat, j ≤ tx.length ∧ i = .int .i64 (j : Int) ∧ (∀ k (hk : k < tx.length), k < j → digB tx[k] = true) ∧ Ext w1 wr) (fun i _ => tx.length - (intOf i).toNat)
  case atStart => exact ⟨0, Nat.zero_le _, rfl, fun k _ h => by omega, Below.refl _ _⟩
  case round =>
    obtain ⟨j, hj, rfl, hno, hE⟩ := hrel
    have HE := Lib.hid hE
    have HNO := Lib.hid hno
    have hbw := (hE.below.block _ (lt_of_block HB.out)).trans HB.out
    have z1 := cell_of (i := 1) hbw rfl
    have z2 := cell_of (i := 2) hbw rfl
    clear hE hno hbw
    by_cases hlt : j < tx.length
    · have hq : j < (sB tx).size := by omega
      obtain ⟨b, hb⟩ : ∃ b, digB (tx[j]'hlt) = b := ⟨_, rfl⟩
      have HB2 := Lib.hid hb
      have K := Lib.hid (fun W => (show Gives Tryz.prog 76 #[.int .u8 ((tx[j]'hlt).toNat : Int)] W (.bool b) from by rw [← hb]; exact rfDigit_any _ W))
      clear hb
      cases b with
      | true =>
        go_wp2_with fail
        refine (K.out _).mono ?_
        intro w2 hE
        have HE1 := Lib.hid (Ext.trans HE.out hE)
        clear hE
        go_wp2
        go_roundw
        case rel => exact ⟨j + 1, by omega, by go_num, fun k hk h => by
          by_cases e : k = j
          · subst e; exact HB2.out
          · exact HNO.out k hk (by omega), HE1.out⟩
        case measure => simp [intOf]; omega
      | false =>
        have HRF := Lib.hid (show false = R from HN.out (fun h => by
          have := h.1 (tx[j]'hlt) (List.getElem_mem _)
          rw [HB2.out] at this; cases this))
        go_wp2_with fail
        refine (K.out _).mono ?_
        intro w2 hE
        have HE1 := Lib.hid (Ext.trans HE0.out (Ext.trans HE.out hE))
        clear hE
        go_wp2
        go_ret
        exact ⟨by rw [← HRF.out]; rfl, HE1.out⟩
    · obtain rfl : j = tx.length := by omega
      have HIN := Lib.hid (show ∀ c ∈ tx, digB c = true from fun c hc => by
        obtain ⟨k, hk, rfl⟩ := List.getElem_of_mem hc
        exact HNO.out k hk hk)
      have HEE := Lib.hid (Ext.trans HE0.out HE.out)
      by_cases h0 : 0 < tx.length
      · have hq0 : 0 < (sB tx).size := by omega
        have HNE := Lib.hid (show tx ≠ [] from by rintro rfl; simp at h0)
        have HHD := Lib.hid (show tx.head? = some (tx[0]'h0) from by cases tx with
          | nil => simp at h0
          | cons c r => rfl)
        have KN := Lib.hid (fun W => rfNumberQ_any tx (fun c hc => (digB_iff c).1 (HIN.out c hc)) (by omega) W)
        by_cases hlead : tx.length = 1 ∨ (tx[0]'h0).toNat ≠ 48
        · have HLD := Lib.hid (show tx.length = 1 ∨ ∀ c, tx.head? = some c → c.toNat ≠ 48 from hlead.imp id (fun h c hc => by rw [HHD.out] at hc; cases hc; exact h))
          have hl1 : ((tx.length : Int) == 1) = true ∨ (((tx.length : Int) == 1) = false ∧ (((tx[0]'h0).toNat : Int) != 48) = true) := by
            by_cases e : tx.length = 1
            · exact .inl (by simpa using (show (tx.length : Int) = 1 by omega))
            · have h48 := hlead.resolve_left e
              exact .inr ⟨by simpa using (show ¬ (tx.length : Int) = 1 by omega), by simpa using (show ¬ ((tx[0]'h0).toNat : Int) = 48 by omega)⟩
          clear hlead
          by_cases hv0 : 0 ≤ tv
          · by_cases hv1 : tv ≤ 1099511627776
            · obtain ⟨b, hb⟩ : ∃ b, (satV 0 tx == tv) = b := ⟨_, rfl⟩
              have HRB := Lib.hid (show b = R from by
                cases b with
                | true => exact HY.out ⟨HIN.out, HNE.out, HLD.out, hv0, hv1, eq_of_beq hb⟩
                | false => exact HN.out (fun h => by rw [h.2.2.2.2.2] at hb; simp at hb))
              generalize satV 0 tx = N at *
              rcases hl1 with hl1 | ⟨hl1, hl2⟩
              · go_wp2
                go_quiet ((go_at_call 77; exact Calls.quiet_of_same ((KN.out _).mono fun e w3 h => ⟨h.1, h.2⟩)))
                go_wp2
                go_ret
                exact ⟨by rw [← HRB.out]; first | rfl | simp [hb], Ext.drewN' HEE.out⟩
              · go_wp2
                go_quiet ((go_at_call 77; exact Calls.quiet_of_same ((KN.out _).mono fun e w3 h => ⟨h.1, h.2⟩)))
                go_wp2
                go_ret
                exact ⟨by rw [← HRB.out]; first | rfl | simp [hb], Ext.drewN' HEE.out⟩
            · have HRF := Lib.hid (show false = R from HN.out (fun h => hv1 h.2.2.2.2.1))
              have hv1e : decide (tv ≤ 1099511627776) = false := decide_eq_false hv1
              have hv1f := eq_false hv1
              rcases hl1 with hl1 | ⟨hl1, hl2⟩
              · go_wp2
                go_quiet (fail)
                go_wp2
                go_ret
                exact ⟨by rw [← HRF.out]; rfl, Ext.drewN' HEE.out⟩
              · go_wp2
                go_quiet (fail)
                go_wp2
                go_ret
                exact ⟨by rw [← HRF.out]; rfl, Ext.drewN' HEE.out⟩
          · have HRF := Lib.hid (show false = R from HN.out (fun h => hv0 h.2.2.2.1))
            have hv0e : decide (0 ≤ tv) = false := decide_eq_false hv0
            have hv0f := eq_false hv0
            rcases hl1 with hl1 | ⟨hl1, hl2⟩
            · go_wp2
              go_quiet (fail)
              go_wp2
              go_ret
              exact ⟨by rw [← HRF.out]; rfl, Ext.drewN' HEE.out⟩
            · go_wp2
              go_quiet (fail)
              go_wp2
              go_ret
              exact ⟨by rw [← HRF.out]; rfl, Ext.drewN' HEE.out⟩
        · have HRF := Lib.hid (show false = R from HN.out (fun h => hlead (h.2.2.1.imp id (fun h => h _ HHD.out))))
          have hl1 : ((tx.length : Int) == 1) = false := by simpa using (show ¬ (tx.length : Int) = 1 by omega)
          have hl2 : (((tx[0]'h0).toNat : Int) != 48) = false := by simpa using (show ((tx[0]'h0).toNat : Int) = 48 by omega)
          clear hlead
          go_wp2
          go_quiet (fail)
          go_wp2
          go_ret
          exact ⟨by rw [← HRF.out]; rfl, Ext.drewN' HEE.out⟩
      · have HRF := Lib.hid (show false = R from HN.out (fun h => h.2.1 (List.eq_nil_of_length_eq_zero (by omega))))
        go_wp2
        go_quiet (fail)
        go_wp2
        go_ret
        exact ⟨by rw [← HRF.out]; rfl, Ext.drewN' HEE.out⟩
end Go.Proofs.YtmokejjndkibhaaGreatDoor

namespace Go.Proofs.YtmokejjndkibhaaGreatDoor
open Go.RowKit Go.Shelf Ex
set_option linter.unusedVariables false
set_option linter.unusedSimpArgs false

theorem sgB_getD (l : List Tk) (k : Nat) (x : List UInt8) : sgB l k x = decide ((l.getD k tk0).kind = 3 ∧ (l.getD k tk0).text = x) := by
  rw [List.getD_eq_getElem?_getD]
  unfold sgB
  cases h : l[k]? with
  | none => simp [tk0]
  | some t => rfl
theorem opAt_getD (l : List Tk) (k : Nat) : opAt l k = opT (l.getD k tk0) := by
  rw [List.getD_eq_getElem?_getD]
  unfold opAt opT
  cases h : l[k]? with
  | none => simp [tk0]
  | some t => rfl
theorem getD_some {l : List Tk} {k : Nat} (h : k < l.length) : l.getD k tk0 = l[k] := by rw [List.getD_eq_getElem?_getD, List.getElem?_eq_getElem h]; rfl
theorem getD_out {l : List Tk} {k : Nat} (h : l.length ≤ k) : l.getD k tk0 = tk0 := by rw [List.getD_eq_getElem?_getD, List.getElem?_eq_none h]; rfl
def negR (o : Int) : Res → Res
  | .ok e j => .ok (unX o e) j
  | .bad j => .bad j
/-- what an operand reads as, by its first token -/
theorem Rd.opd_num {l : List Tk} {k : Nat} {r : Res} (h : Rd l .opd k r) (h2 : (l.getD k tk0).kind = 2) : r = if numOk (l.getD k tk0) = true then .ok (numX (l.getD k tk0).val) (k + 1) else .bad k := by
  have sg : ∀ x, sgB l k x = false := fun x => by rw [sgB_getD, h2]; simp
  cases h with
  | num g g1 g2 => rw [getD_some g, if_pos g2]
  | nam g g1 g2 => rw [getD_some g, g1] at h2; cases h2
  | neg g g1 => rw [sg] at g; cases g
  | negB g g1 => rw [sg] at g; cases g
  | no g g1 => rw [sg] at g; cases g
  | noB g g1 => rw [sg] at g; cases g
  | par g g1 g2 => rw [sg] at g; cases g
  | parN g g1 g2 => rw [sg] at g; cases g
  | parB g g1 => rw [sg] at g; cases g
  | out g => rw [getD_out g] at h2; cases h2
  | bad g g1 g2 g3 g4 g5 =>
    rw [getD_some g] at h2 ⊢
    rw [g1 h2]; rfl
theorem Rd.opd_nam {l : List Tk} {k : Nat} {r : Res} (h : Rd l .opd k r) (h2 : (l.getD k tk0).kind = 1) : r = if namOk (l.getD k tk0) = true then .ok (namX (l.getD k tk0).text) (k + 1) else .bad k := by
  have sg : ∀ x, sgB l k x = false := fun x => by rw [sgB_getD, h2]; simp
  cases h with
  | num g g1 g2 => rw [getD_some g, g1] at h2; cases h2
  | nam g g1 g2 => rw [getD_some g, if_pos g2]
  | neg g g1 => rw [sg] at g; cases g
  | negB g g1 => rw [sg] at g; cases g
  | no g g1 => rw [sg] at g; cases g
  | noB g g1 => rw [sg] at g; cases g
  | par g g1 g2 => rw [sg] at g; cases g
  | parN g g1 g2 => rw [sg] at g; cases g
  | parB g g1 => rw [sg] at g; cases g
  | out g => rw [getD_out g] at h2; cases h2
  | bad g g1 g2 g3 g4 g5 =>
    rw [getD_some g] at h2 ⊢
    rw [g2 h2]; rfl
theorem sg_ne {l : List Tk} {k : Nat} {x y : List UInt8} (h : sgB l k x = true) (hxy : x ≠ y) : sgB l k y = false := by
  rw [sgB_getD] at h ⊢
  have := of_decide_eq_true h
  exact decide_eq_false (fun e => hxy (this.2.symm.trans e.2))
theorem sg_kind {l : List Tk} {k : Nat} {x : List UInt8} (h : sgB l k x = true) : (l.getD k tk0).kind = 3 := by
  rw [sgB_getD] at h
  exact (of_decide_eq_true h).1
theorem Rd.opd_neg {l : List Tk} {k : Nat} {r : Res} (h : Rd l .opd k r) (h2 : sgB l k [45] = true) : ∃ r', Rd l .opd (k + 1) r' ∧ r = negR 1 r' := by
  have hk := sg_kind h2
  have s33 := sg_ne h2 (y := [33]) (by decide)
  have s40 := sg_ne h2 (y := [40]) (by decide)
  cases h with
  | num g g1 g2 => rw [getD_some g, g1] at hk; cases hk
  | nam g g1 g2 => rw [getD_some g, g1] at hk; cases hk
  | neg g g1 => exact ⟨_, g1, rfl⟩
  | negB g g1 => exact ⟨_, g1, rfl⟩
  | no g g1 => rw [s33] at g; cases g
  | noB g g1 => rw [s33] at g; cases g
  | par g g1 g2 => rw [s40] at g; cases g
  | parN g g1 g2 => rw [s40] at g; cases g
  | parB g g1 => rw [s40] at g; cases g
  | out g => rw [getD_out g] at hk; cases hk
  | bad g g1 g2 g3 g4 g5 => rw [h2] at g3; cases g3
theorem Rd.opd_no {l : List Tk} {k : Nat} {r : Res} (h : Rd l .opd k r) (h2 : sgB l k [33] = true) : ∃ r', Rd l .opd (k + 1) r' ∧ r = negR 2 r' := by
  have hk := sg_kind h2
  have s45 := sg_ne h2 (y := [45]) (by decide)
  have s40 := sg_ne h2 (y := [40]) (by decide)
  cases h with
  | num g g1 g2 => rw [getD_some g, g1] at hk; cases hk
  | nam g g1 g2 => rw [getD_some g, g1] at hk; cases hk
  | neg g g1 => rw [s45] at g; cases g
  | negB g g1 => rw [s45] at g; cases g
  | no g g1 => exact ⟨_, g1, rfl⟩
  | noB g g1 => exact ⟨_, g1, rfl⟩
  | par g g1 g2 => rw [s40] at g; cases g
  | parN g g1 g2 => rw [s40] at g; cases g
  | parB g g1 => rw [s40] at g; cases g
  | out g => rw [getD_out g] at hk; cases hk
  | bad g g1 g2 g3 g4 g5 => rw [h2] at g4; cases g4
def parR (l : List Tk) : Res → Res
  | .ok e j => if sgB l j [41] = true then .ok e (j + 1) else .bad j
  | .bad j => .bad j
theorem Rd.opd_par {l : List Tk} {k : Nat} {r : Res} (h : Rd l .opd k r) (h2 : sgB l k [40] = true) : ∃ r', Rd l (.bin 1) (k + 1) r' ∧ r = parR l r' := by
  have hk := sg_kind h2
  have s45 := sg_ne h2 (y := [45]) (by decide)
  have s33 := sg_ne h2 (y := [33]) (by decide)
  cases h with
  | num g g1 g2 => rw [getD_some g, g1] at hk; cases hk
  | nam g g1 g2 => rw [getD_some g, g1] at hk; cases hk
  | neg g g1 => rw [s45] at g; cases g
  | negB g g1 => rw [s45] at g; cases g
  | no g g1 => rw [s33] at g; cases g
  | noB g g1 => rw [s33] at g; cases g
  | par g g1 g2 => exact ⟨_, g1, (if_pos g2).symm⟩
  | parN g g1 g2 => exact ⟨_, g1, (if_neg (by rw [g2]; decide)).symm⟩
  | parB g g1 => exact ⟨_, g1, rfl⟩
  | out g => rw [getD_out g] at hk; cases hk
  | bad g g1 g2 g3 g4 g5 => rw [h2] at g5; cases g5
theorem Rd.opd_bad {l : List Tk} {k : Nat} {r : Res} (h : Rd l .opd k r) (k2 : (l.getD k tk0).kind ≠ 2) (k1 : (l.getD k tk0).kind ≠ 1) (s45 : sgB l k [45] = false) (s33 : sgB l k [33] = false) (s40 : sgB l k [40] = false) : r = .bad k := by
  cases h with
  | num g g1 g2 => rw [getD_some g] at k2; exact absurd g1 k2
  | nam g g1 g2 => rw [getD_some g] at k1; exact absurd g1 k1
  | neg g g1 => rw [s45] at g; cases g
  | negB g g1 => rw [s45] at g; cases g
  | no g g1 => rw [s33] at g; cases g
  | noB g g1 => rw [s33] at g; cases g
  | par g g1 g2 => rw [s40] at g; cases g
  | parN g g1 g2 => rw [s40] at g; cases g
  | parB g g1 => rw [s40] at g; cases g
  | out g => rfl
  | bad g g1 g2 g3 g4 g5 => rfl
/-- an expression: of the last precedence an operand, else one of the next, and the loop -/
theorem Rd.binSix {l : List Tk} {k : Nat} {r : Res} (h : Rd l (.bin 6) k r) : Rd l .opd k r := by
  cases h with
  | six _ h => exact h
  | binB hp _ => omega
  | bin hp _ _ => omega
theorem Rd.binNext {l : List Tk} {k p : Nat} {r : Res} (h : Rd l (.bin p) k r) (hp : p ≤ 5) : ∃ r', Rd l (.bin (p + 1)) k r' ∧ ((∃ j, r' = .bad j ∧ r = .bad j) ∨ ∃ e j, r' = .ok e j ∧ Rd l (.loop p e) j r) := by
  cases h with
  | six hp6 _ => omega
  | binB _ h => exact ⟨_, h, .inl ⟨_, rfl, rfl⟩⟩
  | bin _ h h1 => exact ⟨_, h, .inr ⟨_, _, rfl, h1⟩⟩
/-- a round of the loop -/
theorem Rd.loopFin {l : List Tk} {k p : Nat} {e : Ex} {r : Res} (h : Rd l (.loop p e) k r) (hn : (opAt l k).2 ≠ (p : Int)) : r = .ok e k := by
  cases h with
  | fin _ => rfl
  | argB h _ => exact absurd h hn
  | three _ h _ => exact absurd h hn
  | more _ h _ _ => exact absurd h hn
theorem Rd.loopOp {l : List Tk} {k p : Nat} {e : Ex} {r : Res} (h : Rd l (.loop p e) k r) (hn : (opAt l k).2 = (p : Int)) : ∃ r', Rd l (.bin (p + 1)) (k + 1) r' ∧ ((∃ j, r' = .bad j ∧ r = .bad j) ∨ ∃ f j, r' = .ok f j ∧
    ((p = 3 ∧ r = .ok (binX (opAt l k).1 e f) j) ∨ (p ≠ 3 ∧ Rd l (.loop p (binX (opAt l k).1 e f)) j r))) := by
  cases h with
  | fin h => exact absurd hn h
  | argB _ h => exact ⟨_, h, .inl ⟨_, rfl, rfl⟩⟩
  | three hp _ h => exact ⟨_, h, .inr ⟨_, _, rfl, .inl ⟨hp, rfl⟩⟩⟩
  | more hp _ h h1 => exact ⟨_, h, .inr ⟨_, _, rfl, .inr ⟨hp, h1⟩⟩⟩
/-- what the reference's reading functions give -/
def RfPost (r : Res) (W : World) (e : Ending) (w' : World) : Prop := Ext W w' ∧ match r with
  | .ok x j => ∃ q c, e = .returned (.tuple #[x.val q c, .int .i64 (j : Int), .bool true]) ∧ Ex.AtB (W.heap.size ≤ ·) w' q x
  | .bad j => e = .returned (.tuple #[exZ.val none 0, .int .i64 (j : Int), .bool false])
end Go.Proofs.YtmokejjndkibhaaGreatDoor

namespace Go.Proofs.YtmokejjndkibhaaGreatDoor
open Go.RowKit Go.Shelf Ex
set_option linter.unusedVariables false
set_option linter.unusedSimpArgs false

set_option maxRecDepth 100000 in
set_option maxHeartbeats 8000000 in
theorem rfOpdNum (l : List Tk) (p : Option Addr) (c k : Nat) (r : Res) (w : World) (hP : TkRow w p l) (hl : l.length ≤ 100000) (hk : k ≤ l.length) (hX : ∀ t ∈ l, t.text.length ≤ 140737488351232) (hR : Rd l .opd k r) (h2 : (l.getD k tk0).kind = 2) :
    Calls Tryz.prog 64 #[.slice p l.length c, .int .i64 (k : Int)] w (RfPost r w) := by
  have hX0 : (l.getD k tk0).text.length ≤ 140737488351232 := by
    rcases Nat.lt_or_ge k l.length with h | h
    · rw [getD_some h]; exact hX _ (List.getElem_mem h)
    · rw [getD_out h]; simp [tk0]
  have KNX := Lib.hid (fun W (hW : Ext w W) => rfNext_any l p c k W (hP.ext hW) (by omega) (by omega))
  have hr := hR.opd_num h2
  clear hR
  generalize l.getD k tk0 = T at *
  obtain ⟨tk, tx, tv, tp⟩ := T
  dsimp only [TV] at *
  obtain ⟨b, hb⟩ : ∃ b, numOk ⟨tk, tx, tv, tp⟩ = b := ⟨_, rfl⟩
  subst h2
  have KD := Lib.hid (fun W => (by have := rfDigits_any ⟨2, tx, tv, tp⟩ hX0 W; rw [hb] at this; exact this : Gives Tryz.prog 94 #[.agg #[.int .i64 2, sV tx, .int .i64 tv, .int .i64 tp]] W (.bool b)))
  have K45 := Lib.hid (fun W => (show Gives Tryz.prog 96 #[.agg #[.int .i64 2, sV tx, .int .i64 tv, .int .i64 tp], .string { data := #[45] }] W (.bool false) from by
    have := rfIs_any ⟨2, tx, tv, tp⟩ [45] W
    rw [decide_eq_false (fun e => by cases e.1)] at this
    exact this))
  have K33 := Lib.hid (fun W => (show Gives Tryz.prog 96 #[.agg #[.int .i64 2, sV tx, .int .i64 tv, .int .i64 tp], .string { data := #[33] }] W (.bool false) from by
    have := rfIs_any ⟨2, tx, tv, tp⟩ [33] W
    rw [decide_eq_false (fun e => by cases e.1)] at this
    exact this))
  have K40 := Lib.hid (fun W => (show Gives Tryz.prog 96 #[.agg #[.int .i64 2, sV tx, .int .i64 tv, .int .i64 tp], .string { data := #[40] }] W (.bool false) from by
    have := rfIs_any ⟨2, tx, tv, tp⟩ [40] W
    rw [decide_eq_false (fun e => by cases e.1)] at this
    exact this))
  rw [hb] at hr
  have HBN := Lib.hid hb
  have HRR := Lib.hid hr
  clear hb hr
  go_enter Tryz.func64, Tryz.ntmps64
  go_wp2_with fail
  refine (KNX.out _ (ext_alloc _ _)).mono ?_
  intro w1 hE
  obtain ⟨hz, hE1⟩ := kept_new hE
  have HZ1 := Lib.hid hz
  have HE1 := Lib.hid hE1
  clear hE hE1 hz
  obtain ⟨w2, hw2⟩ : ∃ W, w1.alloc (.cells #[.int .i64 2, sV tx, .int .i64 tv, .int .i64 tp] 36) = W := ⟨_, rfl⟩
  have hE12 : Ext w1 w2 := by rw [← hw2]; exact ext_alloc _ _
  have HT2 := Lib.hid (show w2.heap[w1.heap.size]? = some (.cells #[.int .i64 2, sV tx, .int .i64 tv, .int .i64 tp] 36 (0, 0)) from by rw [← hw2]; exact alloc_here _ _)
  have HZ2 := Lib.hid ((hE12.below.block _ (lt_of_block HZ1.out)).trans HZ1.out)
  have HE2 := Lib.hid (Ext.trans HE1.out hE12)
  go_upto_region 2 with fail
  try rw [hw2]
  clear hw2 hE12
  generalize w1.heap.size = TB at *
  have d0 := cell_of (i := 0) HZ2.out rfl
  have d1 := cell_of (i := 1) HZ2.out rfl
  have d2 := cell_of (i := 2) HZ2.out rfl
  have d3 := cell_of (i := 3) HZ2.out rfl
  have d4 := cell_of (i := 4) HZ2.out rfl
  have e0 := cell_of (i := 0) HT2.out rfl
  have e1 := cell_of (i := 1) HT2.out rfl
  have e2 := cell_of (i := 2) HT2.out rfl
  have e3 := cell_of (i := 3) HT2.out rfl
  have f0 : ∀ i, w2.frozen? ⟨w.heap.size, i, none⟩ = false := fun i => free_of HZ2.out
  have l0 : w.heap.size < w2.heap.size := lt_of_block HZ2.out
  have l1 : TB < w2.heap.size := lt_of_block HT2.out
  cases b with
  | true =>
    have HRT := Lib.hid (HRR.out.trans (if_pos rfl))
    clear HRR
    go_wp2_with fail
    refine (KD.out _).mono ?_
    intro w3 hE
    have HZ3 := Lib.hid ((hE.block _ (lt_of_block HZ2.out)).trans HZ2.out)
    have HT3 := Lib.hid ((hE.block _ (lt_of_block HT2.out)).trans HT2.out)
    have HE3 := Lib.hid (Ext.trans HE2.out hE)
    clear hE
    clear d0 d1 d2 d3 d4 e0 e1 e2 e3 f0 l0 l1
    have d0 := cell_of (i := 0) HZ3.out rfl
    have d1 := cell_of (i := 1) HZ3.out rfl
    have d2 := cell_of (i := 2) HZ3.out rfl
    have d3 := cell_of (i := 3) HZ3.out rfl
    have d4 := cell_of (i := 4) HZ3.out rfl
    have e0 := cell_of (i := 0) HT3.out rfl
    have e1 := cell_of (i := 1) HT3.out rfl
    have e2 := cell_of (i := 2) HT3.out rfl
    have e3 := cell_of (i := 3) HT3.out rfl
    have f0 : ∀ i, w3.frozen? ⟨w.heap.size, i, none⟩ = false := fun i => free_of HZ3.out
    have l0 : w.heap.size < w3.heap.size := lt_of_block HZ3.out
    have l1 : TB < w3.heap.size := lt_of_block HT3.out
    go_wp2
    obtain ⟨W', hW', h3, h4, h5⟩ := put5n HZ3.out rfl (.int .i64 1) (.int .i64 0) (.string { data := #[] }) (.int .i64 tv) (.slice none 0 0)
    rw [hW']
    have g0 := cell_of (i := 0) h3 rfl
    have g1 := cell_of (i := 1) h3 rfl
    have g2 := cell_of (i := 2) h3 rfl
    have g3 := cell_of (i := 3) h3 rfl
    have g4 := cell_of (i := 4) h3 rfl
    exact bodyPost_ret (v := .tuple #[.agg #[.int .i64 1, .int .i64 0, .string { data := #[] }, .int .i64 tv, .slice none 0 0], .int .i64 ((k : Int) + 1), .bool true]) (by simp [results, Tryz.f64, go_sem, g0, g1, g2, g3, g4]) rfl (by rw [HRT.out]; exact ⟨Below.trans HE3.out (h4 _ (Nat.le_refl _)), ⟨none, 0, rfl, AtB_leaf _ _ none (fits_num tv (by have := of_decide_eq_true HBN.out; dsimp only at this; omega) (by have := of_decide_eq_true HBN.out; dsimp only at this; omega))⟩⟩)
  | false =>
    have HRT := Lib.hid (HRR.out.trans (if_neg (by decide)))
    clear HRR
    go_wp2_with fail
    refine (KD.out _).mono ?_
    intro w3 hE
    have HZ3 := Lib.hid ((hE.block _ (lt_of_block HZ2.out)).trans HZ2.out)
    have HT3 := Lib.hid ((hE.block _ (lt_of_block HT2.out)).trans HT2.out)
    have HE3 := Lib.hid (Ext.trans HE2.out hE)
    clear hE
    clear d0 d1 d2 d3 d4 e0 e1 e2 e3 f0 l0 l1
    have d0 := cell_of (i := 0) HZ3.out rfl
    have d1 := cell_of (i := 1) HZ3.out rfl
    have d2 := cell_of (i := 2) HZ3.out rfl
    have d3 := cell_of (i := 3) HZ3.out rfl
    have d4 := cell_of (i := 4) HZ3.out rfl
    have e0 := cell_of (i := 0) HT3.out rfl
    have e1 := cell_of (i := 1) HT3.out rfl
    have e2 := cell_of (i := 2) HT3.out rfl
    have e3 := cell_of (i := 3) HT3.out rfl
    have f0 : ∀ i, w3.frozen? ⟨w.heap.size, i, none⟩ = false := fun i => free_of HZ3.out
    have l0 : w.heap.size < w3.heap.size := lt_of_block HZ3.out
    have l1 : TB < w3.heap.size := lt_of_block HT3.out
    go_wp2_with fail
    refine (K45.out _).mono ?_
    intro w4 hE
    have HZ4 := Lib.hid ((hE.block _ (lt_of_block HZ3.out)).trans HZ3.out)
    have HT4 := Lib.hid ((hE.block _ (lt_of_block HT3.out)).trans HT3.out)
    have HE4 := Lib.hid (Ext.trans HE3.out hE)
    clear hE
    clear d0 d1 d2 d3 d4 e0 e1 e2 e3 f0 l0 l1
    have d0 := cell_of (i := 0) HZ4.out rfl
    have d1 := cell_of (i := 1) HZ4.out rfl
    have d2 := cell_of (i := 2) HZ4.out rfl
    have d3 := cell_of (i := 3) HZ4.out rfl
    have d4 := cell_of (i := 4) HZ4.out rfl
    have e0 := cell_of (i := 0) HT4.out rfl
    have e1 := cell_of (i := 1) HT4.out rfl
    have e2 := cell_of (i := 2) HT4.out rfl
    have e3 := cell_of (i := 3) HT4.out rfl
    have f0 : ∀ i, w4.frozen? ⟨w.heap.size, i, none⟩ = false := fun i => free_of HZ4.out
    have l0 : w.heap.size < w4.heap.size := lt_of_block HZ4.out
    have l1 : TB < w4.heap.size := lt_of_block HT4.out
    go_wp2_with fail
    refine (K33.out _).mono ?_
    intro w5 hE
    have HZ5 := Lib.hid ((hE.block _ (lt_of_block HZ4.out)).trans HZ4.out)
    have HT5 := Lib.hid ((hE.block _ (lt_of_block HT4.out)).trans HT4.out)
    have HE5 := Lib.hid (Ext.trans HE4.out hE)
    clear hE
    clear d0 d1 d2 d3 d4 e0 e1 e2 e3 f0 l0 l1
    have d0 := cell_of (i := 0) HZ5.out rfl
    have d1 := cell_of (i := 1) HZ5.out rfl
    have d2 := cell_of (i := 2) HZ5.out rfl
    have d3 := cell_of (i := 3) HZ5.out rfl
    have d4 := cell_of (i := 4) HZ5.out rfl
    have e0 := cell_of (i := 0) HT5.out rfl
    have e1 := cell_of (i := 1) HT5.out rfl
    have e2 := cell_of (i := 2) HT5.out rfl
    have e3 := cell_of (i := 3) HT5.out rfl
    have f0 : ∀ i, w5.frozen? ⟨w.heap.size, i, none⟩ = false := fun i => free_of HZ5.out
    have l0 : w.heap.size < w5.heap.size := lt_of_block HZ5.out
    have l1 : TB < w5.heap.size := lt_of_block HT5.out
    go_wp2_with fail
    refine (K40.out _).mono ?_
    intro w6 hE
    have HZ6 := Lib.hid ((hE.block _ (lt_of_block HZ5.out)).trans HZ5.out)
    have HT6 := Lib.hid ((hE.block _ (lt_of_block HT5.out)).trans HT5.out)
    have HE6 := Lib.hid (Ext.trans HE5.out hE)
    clear hE
    clear d0 d1 d2 d3 d4 e0 e1 e2 e3 f0 l0 l1
    have d0 := cell_of (i := 0) HZ6.out rfl
    have d1 := cell_of (i := 1) HZ6.out rfl
    have d2 := cell_of (i := 2) HZ6.out rfl
    have d3 := cell_of (i := 3) HZ6.out rfl
    have d4 := cell_of (i := 4) HZ6.out rfl
    have e0 := cell_of (i := 0) HT6.out rfl
    have e1 := cell_of (i := 1) HT6.out rfl
    have e2 := cell_of (i := 2) HT6.out rfl
    have e3 := cell_of (i := 3) HT6.out rfl
    have f0 : ∀ i, w6.frozen? ⟨w.heap.size, i, none⟩ = false := fun i => free_of HZ6.out
    have l0 : w.heap.size < w6.heap.size := lt_of_block HZ6.out
    have l1 : TB < w6.heap.size := lt_of_block HT6.out
    go_wp2
    obtain ⟨W', hW', h3, h4, h5⟩ := put5n HZ6.out rfl (.int .i64 0) (.int .i64 0) (.string { data := #[] }) (.int .i64 0) (.slice none 0 0)
    rw [hW']
    have g0 := cell_of (i := 0) h3 rfl
    have g1 := cell_of (i := 1) h3 rfl
    have g2 := cell_of (i := 2) h3 rfl
    have g3 := cell_of (i := 3) h3 rfl
    have g4 := cell_of (i := 4) h3 rfl
    exact bodyPost_ret (v := .tuple #[.agg #[.int .i64 0, .int .i64 0, .string { data := #[] }, .int .i64 0, .slice none 0 0], .int .i64 (k : Int), .bool false]) (by simp [results, Tryz.f64, go_sem, g0, g1, g2, g3, g4]) rfl (by rw [HRT.out]; exact ⟨Below.trans HE6.out (h4 _ (Nat.le_refl _)), rfl⟩)
set_option maxRecDepth 100000 in
set_option maxHeartbeats 8000000 in
theorem rfOpdNam (l : List Tk) (p : Option Addr) (c k : Nat) (r : Res) (w : World) (hP : TkRow w p l) (hl : l.length ≤ 100000) (hk : k ≤ l.length) (hX : ∀ t ∈ l, t.text.length ≤ 140737488351232) (hR : Rd l .opd k r) (h2 : (l.getD k tk0).kind = 1) :
    Calls Tryz.prog 64 #[.slice p l.length c, .int .i64 (k : Int)] w (RfPost r w) := by
  have hX0 : (l.getD k tk0).text.length ≤ 140737488351232 := by
    rcases Nat.lt_or_ge k l.length with h | h
    · rw [getD_some h]; exact hX _ (List.getElem_mem h)
    · rw [getD_out h]; simp [tk0]
  have KNX := Lib.hid (fun W (hW : Ext w W) => rfNext_any l p c k W (hP.ext hW) (by omega) (by omega))
  have hr := hR.opd_nam h2
  clear hR
  generalize l.getD k tk0 = T at *
  obtain ⟨tk, tx, tv, tp⟩ := T
  dsimp only [TV] at *
  obtain ⟨a, ha⟩ : ∃ b, isNm tx = b := ⟨_, rfl⟩
  obtain ⟨b, hb⟩ : ∃ b, kwB tx = b := ⟨_, rfl⟩
  subst h2
  have KN := Lib.hid (fun W => (by have := rfName_any tx (by omega) W; rw [ha] at this; exact this : Gives Tryz.prog 95 #[sV tx] W (.bool a)))
  have KW := Lib.hid (fun W => (by have := rfKeyword_any tx W; rw [hb] at this; exact this : Gives Tryz.prog 26 #[sV tx] W (.bool b)))
  have K45 := Lib.hid (fun W => (show Gives Tryz.prog 96 #[.agg #[.int .i64 1, sV tx, .int .i64 tv, .int .i64 tp], .string { data := #[45] }] W (.bool false) from by
    have := rfIs_any ⟨1, tx, tv, tp⟩ [45] W
    rw [decide_eq_false (fun e => by cases e.1)] at this
    exact this))
  have K33 := Lib.hid (fun W => (show Gives Tryz.prog 96 #[.agg #[.int .i64 1, sV tx, .int .i64 tv, .int .i64 tp], .string { data := #[33] }] W (.bool false) from by
    have := rfIs_any ⟨1, tx, tv, tp⟩ [33] W
    rw [decide_eq_false (fun e => by cases e.1)] at this
    exact this))
  have K40 := Lib.hid (fun W => (show Gives Tryz.prog 96 #[.agg #[.int .i64 1, sV tx, .int .i64 tv, .int .i64 tp], .string { data := #[40] }] W (.bool false) from by
    have := rfIs_any ⟨1, tx, tv, tp⟩ [40] W
    rw [decide_eq_false (fun e => by cases e.1)] at this
    exact this))
  have hr2 : r = if (a && !b) = true then .ok (namX tx) (k + 1) else .bad k := by rw [hr]; unfold namOk; rw [ha, hb]
  have HRR := Lib.hid hr2
  clear ha hb hr hr2
  go_enter Tryz.func64, Tryz.ntmps64
  go_wp2_with fail
  refine (KNX.out _ (ext_alloc _ _)).mono ?_
  intro w1 hE
  obtain ⟨hz, hE1⟩ := kept_new hE
  have HZ1 := Lib.hid hz
  have HE1 := Lib.hid hE1
  clear hE hE1 hz
  obtain ⟨w2, hw2⟩ : ∃ W, w1.alloc (.cells #[.int .i64 1, sV tx, .int .i64 tv, .int .i64 tp] 36) = W := ⟨_, rfl⟩
  have hE12 : Ext w1 w2 := by rw [← hw2]; exact ext_alloc _ _
  have HT2 := Lib.hid (show w2.heap[w1.heap.size]? = some (.cells #[.int .i64 1, sV tx, .int .i64 tv, .int .i64 tp] 36 (0, 0)) from by rw [← hw2]; exact alloc_here _ _)
  have HZ2 := Lib.hid ((hE12.below.block _ (lt_of_block HZ1.out)).trans HZ1.out)
  have HE2 := Lib.hid (Ext.trans HE1.out hE12)
  go_upto_region 2 with fail
  try rw [hw2]
  clear hw2 hE12
  generalize w1.heap.size = TB at *
  have d0 := cell_of (i := 0) HZ2.out rfl
  have d1 := cell_of (i := 1) HZ2.out rfl
  have d2 := cell_of (i := 2) HZ2.out rfl
  have d3 := cell_of (i := 3) HZ2.out rfl
  have d4 := cell_of (i := 4) HZ2.out rfl
  have e0 := cell_of (i := 0) HT2.out rfl
  have e1 := cell_of (i := 1) HT2.out rfl
  have e2 := cell_of (i := 2) HT2.out rfl
  have e3 := cell_of (i := 3) HT2.out rfl
  have f0 : ∀ i, w2.frozen? ⟨w.heap.size, i, none⟩ = false := fun i => free_of HZ2.out
  have l0 : w.heap.size < w2.heap.size := lt_of_block HZ2.out
  have l1 : TB < w2.heap.size := lt_of_block HT2.out
  cases a with
  | true =>
    cases b with
    | true =>
      have HRT := Lib.hid (HRR.out.trans (if_neg (by decide)))
      clear HRR
      go_wp2_with fail
      refine (KN.out _).mono ?_
      intro w3 hE
      have HZ3 := Lib.hid ((hE.block _ (lt_of_block HZ2.out)).trans HZ2.out)
      have HT3 := Lib.hid ((hE.block _ (lt_of_block HT2.out)).trans HT2.out)
      have HE3 := Lib.hid (Ext.trans HE2.out hE)
      clear hE
      clear d0 d1 d2 d3 d4 e0 e1 e2 e3 f0 l0 l1
      have d0 := cell_of (i := 0) HZ3.out rfl
      have d1 := cell_of (i := 1) HZ3.out rfl
      have d2 := cell_of (i := 2) HZ3.out rfl
      have d3 := cell_of (i := 3) HZ3.out rfl
      have d4 := cell_of (i := 4) HZ3.out rfl
      have e0 := cell_of (i := 0) HT3.out rfl
      have e1 := cell_of (i := 1) HT3.out rfl
      have e2 := cell_of (i := 2) HT3.out rfl
      have e3 := cell_of (i := 3) HT3.out rfl
      have f0 : ∀ i, w3.frozen? ⟨w.heap.size, i, none⟩ = false := fun i => free_of HZ3.out
      have l0 : w.heap.size < w3.heap.size := lt_of_block HZ3.out
      have l1 : TB < w3.heap.size := lt_of_block HT3.out
      go_wp2_with fail
      refine (KW.out _).mono ?_
      intro w4 hE
      have HZ4 := Lib.hid ((hE.block _ (lt_of_block HZ3.out)).trans HZ3.out)
      have HT4 := Lib.hid ((hE.block _ (lt_of_block HT3.out)).trans HT3.out)
      have HE4 := Lib.hid (Ext.trans HE3.out hE)
      clear hE
      clear d0 d1 d2 d3 d4 e0 e1 e2 e3 f0 l0 l1
      have d0 := cell_of (i := 0) HZ4.out rfl
      have d1 := cell_of (i := 1) HZ4.out rfl
      have d2 := cell_of (i := 2) HZ4.out rfl
      have d3 := cell_of (i := 3) HZ4.out rfl
      have d4 := cell_of (i := 4) HZ4.out rfl
      have e0 := cell_of (i := 0) HT4.out rfl
      have e1 := cell_of (i := 1) HT4.out rfl
      have e2 := cell_of (i := 2) HT4.out rfl
      have e3 := cell_of (i := 3) HT4.out rfl
      have f0 : ∀ i, w4.frozen? ⟨w.heap.size, i, none⟩ = false := fun i => free_of HZ4.out
      have l0 : w.heap.size < w4.heap.size := lt_of_block HZ4.out
      have l1 : TB < w4.heap.size := lt_of_block HT4.out
      go_wp2_with fail
      refine (K45.out _).mono ?_
      intro w5 hE
      have HZ5 := Lib.hid ((hE.block _ (lt_of_block HZ4.out)).trans HZ4.out)
      have HT5 := Lib.hid ((hE.block _ (lt_of_block HT4.out)).trans HT4.out)
      have HE5 := Lib.hid (Ext.trans HE4.out hE)
      clear hE
      clear d0 d1 d2 d3 d4 e0 e1 e2 e3 f0 l0 l1
      have d0 := cell_of (i := 0) HZ5.out rfl
      have d1 := cell_of (i := 1) HZ5.out rfl
      have d2 := cell_of (i := 2) HZ5.out rfl
      have d3 := cell_of (i := 3) HZ5.out rfl
      have d4 := cell_of (i := 4) HZ5.out rfl
      have e0 := cell_of (i := 0) HT5.out rfl
      have e1 := cell_of (i := 1) HT5.out rfl
      have e2 := cell_of (i := 2) HT5.out rfl
      have e3 := cell_of (i := 3) HT5.out rfl
      have f0 : ∀ i, w5.frozen? ⟨w.heap.size, i, none⟩ = false := fun i => free_of HZ5.out
      have l0 : w.heap.size < w5.heap.size := lt_of_block HZ5.out
      have l1 : TB < w5.heap.size := lt_of_block HT5.out
      go_wp2_with fail
      refine (K33.out _).mono ?_
      intro w6 hE
      have HZ6 := Lib.hid ((hE.block _ (lt_of_block HZ5.out)).trans HZ5.out)
      have HT6 := Lib.hid ((hE.block _ (lt_of_block HT5.out)).trans HT5.out)
      have HE6 := Lib.hid (Ext.trans HE5.out hE)
      clear hE
      clear d0 d1 d2 d3 d4 e0 e1 e2 e3 f0 l0 l1
      have d0 := cell_of (i := 0) HZ6.out rfl
      have d1 := cell_of (i := 1) HZ6.out rfl
      have d2 := cell_of (i := 2) HZ6.out rfl
      have d3 := cell_of (i := 3) HZ6.out rfl
      have d4 := cell_of (i := 4) HZ6.out rfl
      have e0 := cell_of (i := 0) HT6.out rfl
      have e1 := cell_of (i := 1) HT6.out rfl
      have e2 := cell_of (i := 2) HT6.out rfl
      have e3 := cell_of (i := 3) HT6.out rfl
      have f0 : ∀ i, w6.frozen? ⟨w.heap.size, i, none⟩ = false := fun i => free_of HZ6.out
      have l0 : w.heap.size < w6.heap.size := lt_of_block HZ6.out
      have l1 : TB < w6.heap.size := lt_of_block HT6.out
      go_wp2_with fail
      refine (K40.out _).mono ?_
      intro w7 hE
      have HZ7 := Lib.hid ((hE.block _ (lt_of_block HZ6.out)).trans HZ6.out)
      have HT7 := Lib.hid ((hE.block _ (lt_of_block HT6.out)).trans HT6.out)
      have HE7 := Lib.hid (Ext.trans HE6.out hE)
      clear hE
      clear d0 d1 d2 d3 d4 e0 e1 e2 e3 f0 l0 l1
      have d0 := cell_of (i := 0) HZ7.out rfl
      have d1 := cell_of (i := 1) HZ7.out rfl
      have d2 := cell_of (i := 2) HZ7.out rfl
      have d3 := cell_of (i := 3) HZ7.out rfl
      have d4 := cell_of (i := 4) HZ7.out rfl
      have e0 := cell_of (i := 0) HT7.out rfl
      have e1 := cell_of (i := 1) HT7.out rfl
      have e2 := cell_of (i := 2) HT7.out rfl
      have e3 := cell_of (i := 3) HT7.out rfl
      have f0 : ∀ i, w7.frozen? ⟨w.heap.size, i, none⟩ = false := fun i => free_of HZ7.out
      have l0 : w.heap.size < w7.heap.size := lt_of_block HZ7.out
      have l1 : TB < w7.heap.size := lt_of_block HT7.out
      go_wp2
      obtain ⟨W', hW', h3, h4, h5⟩ := put5n HZ7.out rfl (.int .i64 0) (.int .i64 0) (.string { data := #[] }) (.int .i64 0) (.slice none 0 0)
      rw [hW']
      have g0 := cell_of (i := 0) h3 rfl
      have g1 := cell_of (i := 1) h3 rfl
      have g2 := cell_of (i := 2) h3 rfl
      have g3 := cell_of (i := 3) h3 rfl
      have g4 := cell_of (i := 4) h3 rfl
      exact bodyPost_ret (v := .tuple #[.agg #[.int .i64 0, .int .i64 0, .string { data := #[] }, .int .i64 0, .slice none 0 0], .int .i64 (k : Int), .bool false]) (by simp [results, Tryz.f64, go_sem, g0, g1, g2, g3, g4]) rfl (by rw [HRT.out]; exact ⟨Below.trans HE7.out (h4 _ (Nat.le_refl _)), rfl⟩)
    | false =>
      have HRT := Lib.hid (HRR.out.trans (if_pos rfl))
      clear HRR
      go_wp2_with fail
      refine (KN.out _).mono ?_
      intro w3 hE
      have HZ3 := Lib.hid ((hE.block _ (lt_of_block HZ2.out)).trans HZ2.out)
      have HT3 := Lib.hid ((hE.block _ (lt_of_block HT2.out)).trans HT2.out)
      have HE3 := Lib.hid (Ext.trans HE2.out hE)
      clear hE
      clear d0 d1 d2 d3 d4 e0 e1 e2 e3 f0 l0 l1
      have d0 := cell_of (i := 0) HZ3.out rfl
      have d1 := cell_of (i := 1) HZ3.out rfl
      have d2 := cell_of (i := 2) HZ3.out rfl
      have d3 := cell_of (i := 3) HZ3.out rfl
      have d4 := cell_of (i := 4) HZ3.out rfl
      have e0 := cell_of (i := 0) HT3.out rfl
      have e1 := cell_of (i := 1) HT3.out rfl
      have e2 := cell_of (i := 2) HT3.out rfl
      have e3 := cell_of (i := 3) HT3.out rfl
      have f0 : ∀ i, w3.frozen? ⟨w.heap.size, i, none⟩ = false := fun i => free_of HZ3.out
      have l0 : w.heap.size < w3.heap.size := lt_of_block HZ3.out
      have l1 : TB < w3.heap.size := lt_of_block HT3.out
      go_wp2_with fail
      refine (KW.out _).mono ?_
      intro w4 hE
      have HZ4 := Lib.hid ((hE.block _ (lt_of_block HZ3.out)).trans HZ3.out)
      have HT4 := Lib.hid ((hE.block _ (lt_of_block HT3.out)).trans HT3.out)
      have HE4 := Lib.hid (Ext.trans HE3.out hE)
      clear hE
      clear d0 d1 d2 d3 d4 e0 e1 e2 e3 f0 l0 l1
      have d0 := cell_of (i := 0) HZ4.out rfl
      have d1 := cell_of (i := 1) HZ4.out rfl
      have d2 := cell_of (i := 2) HZ4.out rfl
      have d3 := cell_of (i := 3) HZ4.out rfl
      have d4 := cell_of (i := 4) HZ4.out rfl
      have e0 := cell_of (i := 0) HT4.out rfl
      have e1 := cell_of (i := 1) HT4.out rfl
      have e2 := cell_of (i := 2) HT4.out rfl
      have e3 := cell_of (i := 3) HT4.out rfl
      have f0 : ∀ i, w4.frozen? ⟨w.heap.size, i, none⟩ = false := fun i => free_of HZ4.out
      have l0 : w.heap.size < w4.heap.size := lt_of_block HZ4.out
      have l1 : TB < w4.heap.size := lt_of_block HT4.out
      go_wp2
      obtain ⟨W', hW', h3, h4, h5⟩ := put5n HZ4.out rfl (.int .i64 2) (.int .i64 0) (.string (sB tx)) (.int .i64 0) (.slice none 0 0)
      rw [hW']
      have g0 := cell_of (i := 0) h3 rfl
      have g1 := cell_of (i := 1) h3 rfl
      have g2 := cell_of (i := 2) h3 rfl
      have g3 := cell_of (i := 3) h3 rfl
      have g4 := cell_of (i := 4) h3 rfl
      exact bodyPost_ret (v := .tuple #[.agg #[.int .i64 2, .int .i64 0, .string (sB tx), .int .i64 0, .slice none 0 0], .int .i64 ((k : Int) + 1), .bool true]) (by simp [results, Tryz.f64, go_sem, g0, g1, g2, g3, g4]) rfl (by rw [HRT.out]; exact ⟨Below.trans HE4.out (h4 _ (Nat.le_refl _)), ⟨none, 0, rfl, AtB_leaf _ _ none (fits_nam (s := tx) (by omega))⟩⟩)
  | false =>
    have HRT := Lib.hid (HRR.out.trans (if_neg (by simp)))
    clear HRR
    go_wp2_with fail
    refine (KN.out _).mono ?_
    intro w3 hE
    have HZ3 := Lib.hid ((hE.block _ (lt_of_block HZ2.out)).trans HZ2.out)
    have HT3 := Lib.hid ((hE.block _ (lt_of_block HT2.out)).trans HT2.out)
    have HE3 := Lib.hid (Ext.trans HE2.out hE)
    clear hE
    clear d0 d1 d2 d3 d4 e0 e1 e2 e3 f0 l0 l1
    have d0 := cell_of (i := 0) HZ3.out rfl
    have d1 := cell_of (i := 1) HZ3.out rfl
    have d2 := cell_of (i := 2) HZ3.out rfl
    have d3 := cell_of (i := 3) HZ3.out rfl
    have d4 := cell_of (i := 4) HZ3.out rfl
    have e0 := cell_of (i := 0) HT3.out rfl
    have e1 := cell_of (i := 1) HT3.out rfl
    have e2 := cell_of (i := 2) HT3.out rfl
    have e3 := cell_of (i := 3) HT3.out rfl
    have f0 : ∀ i, w3.frozen? ⟨w.heap.size, i, none⟩ = false := fun i => free_of HZ3.out
    have l0 : w.heap.size < w3.heap.size := lt_of_block HZ3.out
    have l1 : TB < w3.heap.size := lt_of_block HT3.out
    go_wp2_with fail
    refine (K45.out _).mono ?_
    intro w4 hE
    have HZ4 := Lib.hid ((hE.block _ (lt_of_block HZ3.out)).trans HZ3.out)
    have HT4 := Lib.hid ((hE.block _ (lt_of_block HT3.out)).trans HT3.out)
    have HE4 := Lib.hid (Ext.trans HE3.out hE)
    clear hE
    clear d0 d1 d2 d3 d4 e0 e1 e2 e3 f0 l0 l1
    have d0 := cell_of (i := 0) HZ4.out rfl
    have d1 := cell_of (i := 1) HZ4.out rfl
    have d2 := cell_of (i := 2) HZ4.out rfl
    have d3 := cell_of (i := 3) HZ4.out rfl
    have d4 := cell_of (i := 4) HZ4.out rfl
    have e0 := cell_of (i := 0) HT4.out rfl
    have e1 := cell_of (i := 1) HT4.out rfl
    have e2 := cell_of (i := 2) HT4.out rfl
    have e3 := cell_of (i := 3) HT4.out rfl
    have f0 : ∀ i, w4.frozen? ⟨w.heap.size, i, none⟩ = false := fun i => free_of HZ4.out
    have l0 : w.heap.size < w4.heap.size := lt_of_block HZ4.out
    have l1 : TB < w4.heap.size := lt_of_block HT4.out
    go_wp2_with fail
    refine (K33.out _).mono ?_
    intro w5 hE
    have HZ5 := Lib.hid ((hE.block _ (lt_of_block HZ4.out)).trans HZ4.out)
    have HT5 := Lib.hid ((hE.block _ (lt_of_block HT4.out)).trans HT4.out)
    have HE5 := Lib.hid (Ext.trans HE4.out hE)
    clear hE
    clear d0 d1 d2 d3 d4 e0 e1 e2 e3 f0 l0 l1
    have d0 := cell_of (i := 0) HZ5.out rfl
    have d1 := cell_of (i := 1) HZ5.out rfl
    have d2 := cell_of (i := 2) HZ5.out rfl
    have d3 := cell_of (i := 3) HZ5.out rfl
    have d4 := cell_of (i := 4) HZ5.out rfl
    have e0 := cell_of (i := 0) HT5.out rfl
    have e1 := cell_of (i := 1) HT5.out rfl
    have e2 := cell_of (i := 2) HT5.out rfl
    have e3 := cell_of (i := 3) HT5.out rfl
    have f0 : ∀ i, w5.frozen? ⟨w.heap.size, i, none⟩ = false := fun i => free_of HZ5.out
    have l0 : w.heap.size < w5.heap.size := lt_of_block HZ5.out
    have l1 : TB < w5.heap.size := lt_of_block HT5.out
    go_wp2_with fail
    refine (K40.out _).mono ?_
    intro w6 hE
    have HZ6 := Lib.hid ((hE.block _ (lt_of_block HZ5.out)).trans HZ5.out)
    have HT6 := Lib.hid ((hE.block _ (lt_of_block HT5.out)).trans HT5.out)
    have HE6 := Lib.hid (Ext.trans HE5.out hE)
    clear hE
    clear d0 d1 d2 d3 d4 e0 e1 e2 e3 f0 l0 l1
    have d0 := cell_of (i := 0) HZ6.out rfl
    have d1 := cell_of (i := 1) HZ6.out rfl
    have d2 := cell_of (i := 2) HZ6.out rfl
    have d3 := cell_of (i := 3) HZ6.out rfl
    have d4 := cell_of (i := 4) HZ6.out rfl
    have e0 := cell_of (i := 0) HT6.out rfl
    have e1 := cell_of (i := 1) HT6.out rfl
    have e2 := cell_of (i := 2) HT6.out rfl
    have e3 := cell_of (i := 3) HT6.out rfl
    have f0 : ∀ i, w6.frozen? ⟨w.heap.size, i, none⟩ = false := fun i => free_of HZ6.out
    have l0 : w.heap.size < w6.heap.size := lt_of_block HZ6.out
    have l1 : TB < w6.heap.size := lt_of_block HT6.out
    go_wp2
    obtain ⟨W', hW', h3, h4, h5⟩ := put5n HZ6.out rfl (.int .i64 0) (.int .i64 0) (.string { data := #[] }) (.int .i64 0) (.slice none 0 0)
    rw [hW']
    have g0 := cell_of (i := 0) h3 rfl
    have g1 := cell_of (i := 1) h3 rfl
    have g2 := cell_of (i := 2) h3 rfl
    have g3 := cell_of (i := 3) h3 rfl
    have g4 := cell_of (i := 4) h3 rfl
    exact bodyPost_ret (v := .tuple #[.agg #[.int .i64 0, .int .i64 0, .string { data := #[] }, .int .i64 0, .slice none 0 0], .int .i64 (k : Int), .bool false]) (by simp [results, Tryz.f64, go_sem, g0, g1, g2, g3, g4]) rfl (by rw [HRT.out]; exact ⟨Below.trans HE6.out (h4 _ (Nat.le_refl _)), rfl⟩)
set_option maxRecDepth 100000 in
set_option maxHeartbeats 8000000 in
theorem rfOpdBad (l : List Tk) (p : Option Addr) (c k : Nat) (r : Res) (w : World) (hP : TkRow w p l) (hl : l.length ≤ 100000) (hk : k ≤ l.length) (hX : ∀ t ∈ l, t.text.length ≤ 140737488351232) (hR : Rd l .opd k r) (k2 : (l.getD k tk0).kind ≠ 2) (k1 : (l.getD k tk0).kind ≠ 1) (s45 : sgB l k [45] = false) (s33 : sgB l k [33] = false) (s40 : sgB l k [40] = false) :
    Calls Tryz.prog 64 #[.slice p l.length c, .int .i64 (k : Int)] w (RfPost r w) := by
  have hX0 : (l.getD k tk0).text.length ≤ 140737488351232 := by
    rcases Nat.lt_or_ge k l.length with h | h
    · rw [getD_some h]; exact hX _ (List.getElem_mem h)
    · rw [getD_out h]; simp [tk0]
  have KNX := Lib.hid (fun W (hW : Ext w W) => rfNext_any l p c k W (hP.ext hW) (by omega) (by omega))
  have hr := hR.opd_bad k2 k1 s45 s33 s40
  rw [sgB_getD] at s45 s33 s40
  clear hR
  generalize l.getD k tk0 = T at *
  obtain ⟨tk, tx, tv, tp⟩ := T
  dsimp only [TV] at *
  have hk2 : (tk == 2) = false := by simpa using k2
  have hk1 : (tk == 1) = false := by simpa using k1
  have K45 := Lib.hid (fun W => (show Gives Tryz.prog 96 #[.agg #[.int .i64 tk, sV tx, .int .i64 tv, .int .i64 tp], .string { data := #[45] }] W (.bool false) from by
    have := rfIs_any ⟨tk, tx, tv, tp⟩ [45] W
    rw [decide_eq_false (of_decide_eq_false s45)] at this
    exact this))
  have K33 := Lib.hid (fun W => (show Gives Tryz.prog 96 #[.agg #[.int .i64 tk, sV tx, .int .i64 tv, .int .i64 tp], .string { data := #[33] }] W (.bool false) from by
    have := rfIs_any ⟨tk, tx, tv, tp⟩ [33] W
    rw [decide_eq_false (of_decide_eq_false s33)] at this
    exact this))
  have K40 := Lib.hid (fun W => (show Gives Tryz.prog 96 #[.agg #[.int .i64 tk, sV tx, .int .i64 tv, .int .i64 tp], .string { data := #[40] }] W (.bool false) from by
    have := rfIs_any ⟨tk, tx, tv, tp⟩ [40] W
    rw [decide_eq_false (of_decide_eq_false s40)] at this
    exact this))
  have HRT := Lib.hid hr
  clear hr k1 k2 s45 s33 s40
  go_enter Tryz.func64, Tryz.ntmps64
  go_wp2_with fail
  refine (KNX.out _ (ext_alloc _ _)).mono ?_
  intro w1 hE
  obtain ⟨hz, hE1⟩ := kept_new hE
  have HZ1 := Lib.hid hz
  have HE1 := Lib.hid hE1
  clear hE hE1 hz
  obtain ⟨w2, hw2⟩ : ∃ W, w1.alloc (.cells #[.int .i64 tk, sV tx, .int .i64 tv, .int .i64 tp] 36) = W := ⟨_, rfl⟩
  have hE12 : Ext w1 w2 := by rw [← hw2]; exact ext_alloc _ _
  have HT2 := Lib.hid (show w2.heap[w1.heap.size]? = some (.cells #[.int .i64 tk, sV tx, .int .i64 tv, .int .i64 tp] 36 (0, 0)) from by rw [← hw2]; exact alloc_here _ _)
  have HZ2 := Lib.hid ((hE12.below.block _ (lt_of_block HZ1.out)).trans HZ1.out)
  have HE2 := Lib.hid (Ext.trans HE1.out hE12)
  go_upto_region 2 with fail
  try rw [hw2]
  clear hw2 hE12
  generalize w1.heap.size = TB at *
  have d0 := cell_of (i := 0) HZ2.out rfl
  have d1 := cell_of (i := 1) HZ2.out rfl
  have d2 := cell_of (i := 2) HZ2.out rfl
  have d3 := cell_of (i := 3) HZ2.out rfl
  have d4 := cell_of (i := 4) HZ2.out rfl
  have e0 := cell_of (i := 0) HT2.out rfl
  have e1 := cell_of (i := 1) HT2.out rfl
  have e2 := cell_of (i := 2) HT2.out rfl
  have e3 := cell_of (i := 3) HT2.out rfl
  have f0 : ∀ i, w2.frozen? ⟨w.heap.size, i, none⟩ = false := fun i => free_of HZ2.out
  have l0 : w.heap.size < w2.heap.size := lt_of_block HZ2.out
  have l1 : TB < w2.heap.size := lt_of_block HT2.out
  go_wp2_with fail
  refine (K45.out _).mono ?_
  intro w3 hE
  have HZ3 := Lib.hid ((hE.block _ (lt_of_block HZ2.out)).trans HZ2.out)
  have HT3 := Lib.hid ((hE.block _ (lt_of_block HT2.out)).trans HT2.out)
  have HE3 := Lib.hid (Ext.trans HE2.out hE)
  clear hE
  clear d0 d1 d2 d3 d4 e0 e1 e2 e3 f0 l0 l1
  have d0 := cell_of (i := 0) HZ3.out rfl
  have d1 := cell_of (i := 1) HZ3.out rfl
  have d2 := cell_of (i := 2) HZ3.out rfl
  have d3 := cell_of (i := 3) HZ3.out rfl
  have d4 := cell_of (i := 4) HZ3.out rfl
  have e0 := cell_of (i := 0) HT3.out rfl
  have e1 := cell_of (i := 1) HT3.out rfl
  have e2 := cell_of (i := 2) HT3.out rfl
  have e3 := cell_of (i := 3) HT3.out rfl
  have f0 : ∀ i, w3.frozen? ⟨w.heap.size, i, none⟩ = false := fun i => free_of HZ3.out
  have l0 : w.heap.size < w3.heap.size := lt_of_block HZ3.out
  have l1 : TB < w3.heap.size := lt_of_block HT3.out
  go_wp2_with fail
  refine (K33.out _).mono ?_
  intro w4 hE
  have HZ4 := Lib.hid ((hE.block _ (lt_of_block HZ3.out)).trans HZ3.out)
  have HT4 := Lib.hid ((hE.block _ (lt_of_block HT3.out)).trans HT3.out)
  have HE4 := Lib.hid (Ext.trans HE3.out hE)
  clear hE
  clear d0 d1 d2 d3 d4 e0 e1 e2 e3 f0 l0 l1
  have d0 := cell_of (i := 0) HZ4.out rfl
  have d1 := cell_of (i := 1) HZ4.out rfl
  have d2 := cell_of (i := 2) HZ4.out rfl
  have d3 := cell_of (i := 3) HZ4.out rfl
  have d4 := cell_of (i := 4) HZ4.out rfl
  have e0 := cell_of (i := 0) HT4.out rfl
  have e1 := cell_of (i := 1) HT4.out rfl
  have e2 := cell_of (i := 2) HT4.out rfl
  have e3 := cell_of (i := 3) HT4.out rfl
  have f0 : ∀ i, w4.frozen? ⟨w.heap.size, i, none⟩ = false := fun i => free_of HZ4.out
  have l0 : w.heap.size < w4.heap.size := lt_of_block HZ4.out
  have l1 : TB < w4.heap.size := lt_of_block HT4.out
  go_wp2_with fail
  refine (K40.out _).mono ?_
  intro w5 hE
  have HZ5 := Lib.hid ((hE.block _ (lt_of_block HZ4.out)).trans HZ4.out)
  have HT5 := Lib.hid ((hE.block _ (lt_of_block HT4.out)).trans HT4.out)
  have HE5 := Lib.hid (Ext.trans HE4.out hE)
  clear hE
  clear d0 d1 d2 d3 d4 e0 e1 e2 e3 f0 l0 l1
  have d0 := cell_of (i := 0) HZ5.out rfl
  have d1 := cell_of (i := 1) HZ5.out rfl
  have d2 := cell_of (i := 2) HZ5.out rfl
  have d3 := cell_of (i := 3) HZ5.out rfl
  have d4 := cell_of (i := 4) HZ5.out rfl
  have e0 := cell_of (i := 0) HT5.out rfl
  have e1 := cell_of (i := 1) HT5.out rfl
  have e2 := cell_of (i := 2) HT5.out rfl
  have e3 := cell_of (i := 3) HT5.out rfl
  have f0 : ∀ i, w5.frozen? ⟨w.heap.size, i, none⟩ = false := fun i => free_of HZ5.out
  have l0 : w.heap.size < w5.heap.size := lt_of_block HZ5.out
  have l1 : TB < w5.heap.size := lt_of_block HT5.out
  go_wp2
  obtain ⟨W', hW', h3, h4, h5⟩ := put5n HZ5.out rfl (.int .i64 0) (.int .i64 0) (.string { data := #[] }) (.int .i64 0) (.slice none 0 0)
  rw [hW']
  have g0 := cell_of (i := 0) h3 rfl
  have g1 := cell_of (i := 1) h3 rfl
  have g2 := cell_of (i := 2) h3 rfl
  have g3 := cell_of (i := 3) h3 rfl
  have g4 := cell_of (i := 4) h3 rfl
  exact bodyPost_ret (v := .tuple #[.agg #[.int .i64 0, .int .i64 0, .string { data := #[] }, .int .i64 0, .slice none 0 0], .int .i64 (k : Int), .bool false]) (by simp [results, Tryz.f64, go_sem, g0, g1, g2, g3, g4]) rfl (by rw [HRT.out]; exact ⟨Below.trans HE5.out (h4 _ (Nat.le_refl _)), rfl⟩)
end Go.Proofs.YtmokejjndkibhaaGreatDoor

namespace Go.Proofs.YtmokejjndkibhaaGreatDoor
open Go.RowKit Go.Shelf Ex
set_option linter.unusedVariables false
set_option linter.unusedSimpArgs false

set_option maxRecDepth 100000 in
set_option maxHeartbeats 8000000 in
theorem rfOpdNegB (l : List Tk) (p : Option Addr) (c k : Nat) (r : Res) (w : World) (hP : TkRow w p l) (hl : l.length ≤ 100000) (hk : k ≤ l.length) (hX : ∀ t ∈ l, t.text.length ≤ 140737488351232) (hR : Rd l .opd k r) (s45 : sgB l k [45] = true) (j : Nat) (IH : ∀ W, Ext w W → Calls Tryz.prog 64 #[.slice p l.length c, .int .i64 ((k : Int) + 1)] W (RfPost (.bad j) W)) (hrj : r = .bad j) :
    Calls Tryz.prog 64 #[.slice p l.length c, .int .i64 (k : Int)] w (RfPost r w) := by
  have hX0 : (l.getD k tk0).text.length ≤ 140737488351232 := by
    rcases Nat.lt_or_ge k l.length with h | h
    · rw [getD_some h]; exact hX _ (List.getElem_mem h)
    · rw [getD_out h]; simp [tk0]
  have KNX := Lib.hid (fun W (hW : Ext w W) => rfNext_any l p c k W (hP.ext hW) (by omega) (by omega))
  have hr := hrj
  rw [sgB_getD] at s45
  have KIH := Lib.hid IH
  clear hR IH hrj
  generalize l.getD k tk0 = T at *
  obtain ⟨tk, tx, tv, tp⟩ := T
  dsimp only [TV] at *
  obtain ⟨rfl, rfl⟩ := of_decide_eq_true s45
  have K45 := Lib.hid (fun W => (show Gives Tryz.prog 96 #[.agg #[.int .i64 3, sV [45], .int .i64 tv, .int .i64 tp], .string { data := #[45] }] W (.bool true) from by
    have := rfIs_any ⟨3, [45], tv, tp⟩ [45] W
    rw [decide_eq_true ⟨rfl, rfl⟩] at this
    exact this))
  have K33 := Lib.hid (fun W => (show Gives Tryz.prog 96 #[.agg #[.int .i64 3, sV [45], .int .i64 tv, .int .i64 tp], .string { data := #[33] }] W (.bool false) from by
    have := rfIs_any ⟨3, [45], tv, tp⟩ [33] W
    rw [decide_eq_false (fun e => by cases e.2)] at this
    exact this))
  have HRT := Lib.hid hr
  clear hr s45
  go_enter Tryz.func64, Tryz.ntmps64
  go_wp2_with fail
  refine (KNX.out _ (ext_alloc _ _)).mono ?_
  intro w1 hE
  obtain ⟨hz, hE1⟩ := kept_new hE
  have HZ1 := Lib.hid hz
  have HE1 := Lib.hid hE1
  clear hE hE1 hz
  obtain ⟨w2, hw2⟩ : ∃ W, w1.alloc (.cells #[.int .i64 3, sV [45], .int .i64 tv, .int .i64 tp] 36) = W := ⟨_, rfl⟩
  have hE12 : Ext w1 w2 := by rw [← hw2]; exact ext_alloc _ _
  have HT2 := Lib.hid (show w2.heap[w1.heap.size]? = some (.cells #[.int .i64 3, sV [45], .int .i64 tv, .int .i64 tp] 36 (0, 0)) from by rw [← hw2]; exact alloc_here _ _)
  have HZ2 := Lib.hid ((hE12.below.block _ (lt_of_block HZ1.out)).trans HZ1.out)
  have HE2 := Lib.hid (Ext.trans HE1.out hE12)
  go_upto_region 2 with fail
  try rw [hw2]
  clear hw2 hE12
  generalize w1.heap.size = TB at *
  have d0 := cell_of (i := 0) HZ2.out rfl
  have d1 := cell_of (i := 1) HZ2.out rfl
  have d2 := cell_of (i := 2) HZ2.out rfl
  have d3 := cell_of (i := 3) HZ2.out rfl
  have d4 := cell_of (i := 4) HZ2.out rfl
  have e0 := cell_of (i := 0) HT2.out rfl
  have e1 := cell_of (i := 1) HT2.out rfl
  have e2 := cell_of (i := 2) HT2.out rfl
  have e3 := cell_of (i := 3) HT2.out rfl
  have f0 : ∀ i, w2.frozen? ⟨w.heap.size, i, none⟩ = false := fun i => free_of HZ2.out
  have l0 : w.heap.size < w2.heap.size := lt_of_block HZ2.out
  have l1 : TB < w2.heap.size := lt_of_block HT2.out
  go_wp2_with fail
  refine (K45.out _).mono ?_
  intro w3 hE
  have HZ3 := Lib.hid ((hE.block _ (lt_of_block HZ2.out)).trans HZ2.out)
  have HT3 := Lib.hid ((hE.block _ (lt_of_block HT2.out)).trans HT2.out)
  have HE3 := Lib.hid (Ext.trans HE2.out hE)
  clear hE
  clear d0 d1 d2 d3 d4 e0 e1 e2 e3 f0 l0 l1
  have d0 := cell_of (i := 0) HZ3.out rfl
  have d1 := cell_of (i := 1) HZ3.out rfl
  have d2 := cell_of (i := 2) HZ3.out rfl
  have d3 := cell_of (i := 3) HZ3.out rfl
  have d4 := cell_of (i := 4) HZ3.out rfl
  have e0 := cell_of (i := 0) HT3.out rfl
  have e1 := cell_of (i := 1) HT3.out rfl
  have e2 := cell_of (i := 2) HT3.out rfl
  have e3 := cell_of (i := 3) HT3.out rfl
  have f0 : ∀ i, w3.frozen? ⟨w.heap.size, i, none⟩ = false := fun i => free_of HZ3.out
  have l0 : w.heap.size < w3.heap.size := lt_of_block HZ3.out
  have l1 : TB < w3.heap.size := lt_of_block HT3.out
  go_wp2_with fail
  refine (show Calls _ _ _ _ _ from KIH.out _ HE3.out).mono ?_
  rintro _ w4 ⟨hE, rfl⟩
  have HZ4 := Lib.hid ((hE.below.block _ (lt_of_block HZ3.out)).trans HZ3.out)
  have HT4 := Lib.hid ((hE.below.block _ (lt_of_block HT3.out)).trans HT3.out)
  have HE4 := Lib.hid (Ext.trans HE3.out hE)
  clear hE
  clear d0 d1 d2 d3 d4 e0 e1 e2 e3 f0 l0 l1
  dsimp only [Ex.val, exZ, Ex.kind, Ex.op, Ex.name, Ex.value, Ex.args, List.length_nil]
  go_upto_region 8 with fail
  obtain ⟨w5, hw5⟩ : ∃ W, w4.alloc (.cells #[.int .i64 0, .int .i64 0, sV [], .int .i64 0, .slice none 0 0] 25) = W := ⟨_, rfl⟩
  have hE : Ext w4 w5 := by rw [← hw5]; exact ext_alloc _ _
  have HX5 := Lib.hid (show w5.heap[w4.heap.size]? = some (.cells #[.int .i64 0, .int .i64 0, sV [], .int .i64 0, .slice none 0 0] 25 (0, 0)) from by rw [← hw5]; exact alloc_here _ _)
  have HZ5 := Lib.hid ((hE.below.block _ (lt_of_block HZ4.out)).trans HZ4.out)
  have HT5 := Lib.hid ((hE.below.block _ (lt_of_block HT4.out)).trans HT4.out)
  have HE5 := Lib.hid (Ext.trans HE4.out hE)
  clear hE
  first | rw [hw5] | (simp only [sV_nil] at hw5 ⊢; rw [hw5])
  clear hw5
  have d0 := cell_of (i := 0) HZ5.out rfl
  have d1 := cell_of (i := 1) HZ5.out rfl
  have d2 := cell_of (i := 2) HZ5.out rfl
  have d3 := cell_of (i := 3) HZ5.out rfl
  have d4 := cell_of (i := 4) HZ5.out rfl
  have e0 := cell_of (i := 0) HT5.out rfl
  have e1 := cell_of (i := 1) HT5.out rfl
  have e2 := cell_of (i := 2) HT5.out rfl
  have e3 := cell_of (i := 3) HT5.out rfl
  have f0 : ∀ i, w5.frozen? ⟨w.heap.size, i, none⟩ = false := fun i => free_of HZ5.out
  have l0 : w.heap.size < w5.heap.size := lt_of_block HZ5.out
  have l1 : TB < w5.heap.size := lt_of_block HT5.out
  go_wp2
  obtain ⟨W', hW', h3, h4, h5⟩ := put5n HZ5.out rfl (.int .i64 0) (.int .i64 0) (.string { data := #[] }) (.int .i64 0) (.slice none 0 0)
  rw [hW']
  have g0 := cell_of (i := 0) h3 rfl
  have g1 := cell_of (i := 1) h3 rfl
  have g2 := cell_of (i := 2) h3 rfl
  have g3 := cell_of (i := 3) h3 rfl
  have g4 := cell_of (i := 4) h3 rfl
  exact bodyPost_ret (v := .tuple #[.agg #[.int .i64 0, .int .i64 0, .string { data := #[] }, .int .i64 0, .slice none 0 0], .int .i64 (j : Int), .bool false]) (by simp [results, Tryz.f64, go_sem, g0, g1, g2, g3, g4]) rfl (by rw [HRT.out]; exact ⟨Below.trans HE5.out (h4 _ (Nat.le_refl _)), rfl⟩)
set_option maxRecDepth 100000 in
set_option maxHeartbeats 8000000 in
theorem rfOpdNoB (l : List Tk) (p : Option Addr) (c k : Nat) (r : Res) (w : World) (hP : TkRow w p l) (hl : l.length ≤ 100000) (hk : k ≤ l.length) (hX : ∀ t ∈ l, t.text.length ≤ 140737488351232) (hR : Rd l .opd k r) (s33 : sgB l k [33] = true) (j : Nat) (IH : ∀ W, Ext w W → Calls Tryz.prog 64 #[.slice p l.length c, .int .i64 ((k : Int) + 1)] W (RfPost (.bad j) W)) (hrj : r = .bad j) :
    Calls Tryz.prog 64 #[.slice p l.length c, .int .i64 (k : Int)] w (RfPost r w) := by
  have hX0 : (l.getD k tk0).text.length ≤ 140737488351232 := by
    rcases Nat.lt_or_ge k l.length with h | h
    · rw [getD_some h]; exact hX _ (List.getElem_mem h)
    · rw [getD_out h]; simp [tk0]
  have KNX := Lib.hid (fun W (hW : Ext w W) => rfNext_any l p c k W (hP.ext hW) (by omega) (by omega))
  have hr := hrj
  rw [sgB_getD] at s33
  have KIH := Lib.hid IH
  clear hR IH hrj
  generalize l.getD k tk0 = T at *
  obtain ⟨tk, tx, tv, tp⟩ := T
  dsimp only [TV] at *
  obtain ⟨rfl, rfl⟩ := of_decide_eq_true s33
  have K45 := Lib.hid (fun W => (show Gives Tryz.prog 96 #[.agg #[.int .i64 3, sV [33], .int .i64 tv, .int .i64 tp], .string { data := #[45] }] W (.bool false) from by
    have := rfIs_any ⟨3, [33], tv, tp⟩ [45] W
    rw [decide_eq_false (fun e => by cases e.2)] at this
    exact this))
  have K33 := Lib.hid (fun W => (show Gives Tryz.prog 96 #[.agg #[.int .i64 3, sV [33], .int .i64 tv, .int .i64 tp], .string { data := #[33] }] W (.bool true) from by
    have := rfIs_any ⟨3, [33], tv, tp⟩ [33] W
    rw [decide_eq_true ⟨rfl, rfl⟩] at this
    exact this))
  have HRT := Lib.hid hr
  clear hr s33
  go_enter Tryz.func64, Tryz.ntmps64
  go_wp2_with fail
  refine (KNX.out _ (ext_alloc _ _)).mono ?_
  intro w1 hE
  obtain ⟨hz, hE1⟩ := kept_new hE
  have HZ1 := Lib.hid hz
  have HE1 := Lib.hid hE1
  clear hE hE1 hz
  obtain ⟨w2, hw2⟩ : ∃ W, w1.alloc (.cells #[.int .i64 3, sV [33], .int .i64 tv, .int .i64 tp] 36) = W := ⟨_, rfl⟩
  have hE12 : Ext w1 w2 := by rw [← hw2]; exact ext_alloc _ _
  have HT2 := Lib.hid (show w2.heap[w1.heap.size]? = some (.cells #[.int .i64 3, sV [33], .int .i64 tv, .int .i64 tp] 36 (0, 0)) from by rw [← hw2]; exact alloc_here _ _)
  have HZ2 := Lib.hid ((hE12.below.block _ (lt_of_block HZ1.out)).trans HZ1.out)
  have HE2 := Lib.hid (Ext.trans HE1.out hE12)
  go_upto_region 2 with fail
  try rw [hw2]
  clear hw2 hE12
  generalize w1.heap.size = TB at *
  have d0 := cell_of (i := 0) HZ2.out rfl
  have d1 := cell_of (i := 1) HZ2.out rfl
  have d2 := cell_of (i := 2) HZ2.out rfl
  have d3 := cell_of (i := 3) HZ2.out rfl
  have d4 := cell_of (i := 4) HZ2.out rfl
  have e0 := cell_of (i := 0) HT2.out rfl
  have e1 := cell_of (i := 1) HT2.out rfl
  have e2 := cell_of (i := 2) HT2.out rfl
  have e3 := cell_of (i := 3) HT2.out rfl
  have f0 : ∀ i, w2.frozen? ⟨w.heap.size, i, none⟩ = false := fun i => free_of HZ2.out
  have l0 : w.heap.size < w2.heap.size := lt_of_block HZ2.out
  have l1 : TB < w2.heap.size := lt_of_block HT2.out
  go_wp2_with fail
  refine (K45.out _).mono ?_
  intro w3 hE
  have HZ3 := Lib.hid ((hE.block _ (lt_of_block HZ2.out)).trans HZ2.out)
  have HT3 := Lib.hid ((hE.block _ (lt_of_block HT2.out)).trans HT2.out)
  have HE3 := Lib.hid (Ext.trans HE2.out hE)
  clear hE
  clear d0 d1 d2 d3 d4 e0 e1 e2 e3 f0 l0 l1
  have d0 := cell_of (i := 0) HZ3.out rfl
  have d1 := cell_of (i := 1) HZ3.out rfl
  have d2 := cell_of (i := 2) HZ3.out rfl
  have d3 := cell_of (i := 3) HZ3.out rfl
  have d4 := cell_of (i := 4) HZ3.out rfl
  have e0 := cell_of (i := 0) HT3.out rfl
  have e1 := cell_of (i := 1) HT3.out rfl
  have e2 := cell_of (i := 2) HT3.out rfl
  have e3 := cell_of (i := 3) HT3.out rfl
  have f0 : ∀ i, w3.frozen? ⟨w.heap.size, i, none⟩ = false := fun i => free_of HZ3.out
  have l0 : w.heap.size < w3.heap.size := lt_of_block HZ3.out
  have l1 : TB < w3.heap.size := lt_of_block HT3.out
  go_wp2_with fail
  refine (K33.out _).mono ?_
  intro w4 hE
  have HZ4 := Lib.hid ((hE.block _ (lt_of_block HZ3.out)).trans HZ3.out)
  have HT4 := Lib.hid ((hE.block _ (lt_of_block HT3.out)).trans HT3.out)
  have HE4 := Lib.hid (Ext.trans HE3.out hE)
  clear hE
  clear d0 d1 d2 d3 d4 e0 e1 e2 e3 f0 l0 l1
  have d0 := cell_of (i := 0) HZ4.out rfl
  have d1 := cell_of (i := 1) HZ4.out rfl
  have d2 := cell_of (i := 2) HZ4.out rfl
  have d3 := cell_of (i := 3) HZ4.out rfl
  have d4 := cell_of (i := 4) HZ4.out rfl
  have e0 := cell_of (i := 0) HT4.out rfl
  have e1 := cell_of (i := 1) HT4.out rfl
  have e2 := cell_of (i := 2) HT4.out rfl
  have e3 := cell_of (i := 3) HT4.out rfl
  have f0 : ∀ i, w4.frozen? ⟨w.heap.size, i, none⟩ = false := fun i => free_of HZ4.out
  have l0 : w.heap.size < w4.heap.size := lt_of_block HZ4.out
  have l1 : TB < w4.heap.size := lt_of_block HT4.out
  go_wp2_with fail
  refine (show Calls _ _ _ _ _ from KIH.out _ HE4.out).mono ?_
  rintro _ w5 ⟨hE, rfl⟩
  have HZ5 := Lib.hid ((hE.below.block _ (lt_of_block HZ4.out)).trans HZ4.out)
  have HT5 := Lib.hid ((hE.below.block _ (lt_of_block HT4.out)).trans HT4.out)
  have HE5 := Lib.hid (Ext.trans HE4.out hE)
  clear hE
  clear d0 d1 d2 d3 d4 e0 e1 e2 e3 f0 l0 l1
  dsimp only [Ex.val, exZ, Ex.kind, Ex.op, Ex.name, Ex.value, Ex.args, List.length_nil]
  go_upto_region 8 with fail
  obtain ⟨w6, hw6⟩ : ∃ W, w5.alloc (.cells #[.int .i64 0, .int .i64 0, sV [], .int .i64 0, .slice none 0 0] 25) = W := ⟨_, rfl⟩
  have hE : Ext w5 w6 := by rw [← hw6]; exact ext_alloc _ _
  have HX6 := Lib.hid (show w6.heap[w5.heap.size]? = some (.cells #[.int .i64 0, .int .i64 0, sV [], .int .i64 0, .slice none 0 0] 25 (0, 0)) from by rw [← hw6]; exact alloc_here _ _)
  have HZ6 := Lib.hid ((hE.below.block _ (lt_of_block HZ5.out)).trans HZ5.out)
  have HT6 := Lib.hid ((hE.below.block _ (lt_of_block HT5.out)).trans HT5.out)
  have HE6 := Lib.hid (Ext.trans HE5.out hE)
  clear hE
  first | rw [hw6] | (simp only [sV_nil] at hw6 ⊢; rw [hw6])
  clear hw6
  have d0 := cell_of (i := 0) HZ6.out rfl
  have d1 := cell_of (i := 1) HZ6.out rfl
  have d2 := cell_of (i := 2) HZ6.out rfl
  have d3 := cell_of (i := 3) HZ6.out rfl
  have d4 := cell_of (i := 4) HZ6.out rfl
  have e0 := cell_of (i := 0) HT6.out rfl
  have e1 := cell_of (i := 1) HT6.out rfl
  have e2 := cell_of (i := 2) HT6.out rfl
  have e3 := cell_of (i := 3) HT6.out rfl
  have f0 : ∀ i, w6.frozen? ⟨w.heap.size, i, none⟩ = false := fun i => free_of HZ6.out
  have l0 : w.heap.size < w6.heap.size := lt_of_block HZ6.out
  have l1 : TB < w6.heap.size := lt_of_block HT6.out
  go_wp2
  obtain ⟨W', hW', h3, h4, h5⟩ := put5n HZ6.out rfl (.int .i64 0) (.int .i64 0) (.string { data := #[] }) (.int .i64 0) (.slice none 0 0)
  rw [hW']
  have g0 := cell_of (i := 0) h3 rfl
  have g1 := cell_of (i := 1) h3 rfl
  have g2 := cell_of (i := 2) h3 rfl
  have g3 := cell_of (i := 3) h3 rfl
  have g4 := cell_of (i := 4) h3 rfl
  exact bodyPost_ret (v := .tuple #[.agg #[.int .i64 0, .int .i64 0, .string { data := #[] }, .int .i64 0, .slice none 0 0], .int .i64 (j : Int), .bool false]) (by simp [results, Tryz.f64, go_sem, g0, g1, g2, g3, g4]) rfl (by rw [HRT.out]; exact ⟨Below.trans HE6.out (h4 _ (Nat.le_refl _)), rfl⟩)
set_option maxRecDepth 100000 in
set_option maxHeartbeats 8000000 in
theorem rfOpdNeg (l : List Tk) (p : Option Addr) (c k : Nat) (r : Res) (w : World) (hP : TkRow w p l) (hl : l.length ≤ 100000) (hk : k ≤ l.length) (hX : ∀ t ∈ l, t.text.length ≤ 140737488351232) (hR : Rd l .opd k r) (s45 : sgB l k [45] = true) (x : Ex) (j : Nat) (IH : ∀ W, Ext w W → Calls Tryz.prog 64 #[.slice p l.length c, .int .i64 ((k : Int) + 1)] W (RfPost (.ok x j) W)) (hrj : r = .ok (unX 1 x) j) :
    Calls Tryz.prog 64 #[.slice p l.length c, .int .i64 (k : Int)] w (RfPost r w) := by
  have hX0 : (l.getD k tk0).text.length ≤ 140737488351232 := by
    rcases Nat.lt_or_ge k l.length with h | h
    · rw [getD_some h]; exact hX _ (List.getElem_mem h)
    · rw [getD_out h]; simp [tk0]
  have KNX := Lib.hid (fun W (hW : Ext w W) => rfNext_any l p c k W (hP.ext hW) (by omega) (by omega))
  have hr := hrj
  rw [sgB_getD] at s45
  have KIH := Lib.hid IH
  clear hR IH hrj
  generalize l.getD k tk0 = T at *
  obtain ⟨tk, tx, tv, tp⟩ := T
  dsimp only [TV] at *
  obtain ⟨rfl, rfl⟩ := of_decide_eq_true s45
  have K45 := Lib.hid (fun W => (show Gives Tryz.prog 96 #[.agg #[.int .i64 3, sV [45], .int .i64 tv, .int .i64 tp], .string { data := #[45] }] W (.bool true) from by
    have := rfIs_any ⟨3, [45], tv, tp⟩ [45] W
    rw [decide_eq_true ⟨rfl, rfl⟩] at this
    exact this))
  have K33 := Lib.hid (fun W => (show Gives Tryz.prog 96 #[.agg #[.int .i64 3, sV [45], .int .i64 tv, .int .i64 tp], .string { data := #[33] }] W (.bool false) from by
    have := rfIs_any ⟨3, [45], tv, tp⟩ [33] W
    rw [decide_eq_false (fun e => by cases e.2)] at this
    exact this))
  have HRT := Lib.hid hr
  clear hr s45
  go_enter Tryz.func64, Tryz.ntmps64
  go_wp2_with fail
  refine (KNX.out _ (ext_alloc _ _)).mono ?_
  intro w1 hE
  obtain ⟨hz, hE1⟩ := kept_new hE
  have HZ1 := Lib.hid hz
  have HE1 := Lib.hid hE1
  clear hE hE1 hz
  obtain ⟨w2, hw2⟩ : ∃ W, w1.alloc (.cells #[.int .i64 3, sV [45], .int .i64 tv, .int .i64 tp] 36) = W := ⟨_, rfl⟩
  have hE12 : Ext w1 w2 := by rw [← hw2]; exact ext_alloc _ _
  have HT2 := Lib.hid (show w2.heap[w1.heap.size]? = some (.cells #[.int .i64 3, sV [45], .int .i64 tv, .int .i64 tp] 36 (0, 0)) from by rw [← hw2]; exact alloc_here _ _)
  have HZ2 := Lib.hid ((hE12.below.block _ (lt_of_block HZ1.out)).trans HZ1.out)
  have HE2 := Lib.hid (Ext.trans HE1.out hE12)
  go_upto_region 2 with fail
  try rw [hw2]
  clear hw2 hE12
  generalize w1.heap.size = TB at *
  have d0 := cell_of (i := 0) HZ2.out rfl
  have d1 := cell_of (i := 1) HZ2.out rfl
  have d2 := cell_of (i := 2) HZ2.out rfl
  have d3 := cell_of (i := 3) HZ2.out rfl
  have d4 := cell_of (i := 4) HZ2.out rfl
  have e0 := cell_of (i := 0) HT2.out rfl
  have e1 := cell_of (i := 1) HT2.out rfl
  have e2 := cell_of (i := 2) HT2.out rfl
  have e3 := cell_of (i := 3) HT2.out rfl
  have f0 : ∀ i, w2.frozen? ⟨w.heap.size, i, none⟩ = false := fun i => free_of HZ2.out
  have l0 : w.heap.size < w2.heap.size := lt_of_block HZ2.out
  have l1 : TB < w2.heap.size := lt_of_block HT2.out
  go_wp2_with fail
  refine (K45.out _).mono ?_
  intro w3 hE
  have HZ3 := Lib.hid ((hE.block _ (lt_of_block HZ2.out)).trans HZ2.out)
  have HT3 := Lib.hid ((hE.block _ (lt_of_block HT2.out)).trans HT2.out)
  have HE3 := Lib.hid (Ext.trans HE2.out hE)
  clear hE
  clear d0 d1 d2 d3 d4 e0 e1 e2 e3 f0 l0 l1
  have d0 := cell_of (i := 0) HZ3.out rfl
  have d1 := cell_of (i := 1) HZ3.out rfl
  have d2 := cell_of (i := 2) HZ3.out rfl
  have d3 := cell_of (i := 3) HZ3.out rfl
  have d4 := cell_of (i := 4) HZ3.out rfl
  have e0 := cell_of (i := 0) HT3.out rfl
  have e1 := cell_of (i := 1) HT3.out rfl
  have e2 := cell_of (i := 2) HT3.out rfl
  have e3 := cell_of (i := 3) HT3.out rfl
  have f0 : ∀ i, w3.frozen? ⟨w.heap.size, i, none⟩ = false := fun i => free_of HZ3.out
  have l0 : w.heap.size < w3.heap.size := lt_of_block HZ3.out
  have l1 : TB < w3.heap.size := lt_of_block HT3.out
  go_wp2_with fail
  refine (show Calls _ _ _ _ _ from KIH.out _ HE3.out).mono ?_
  rintro _ w4 ⟨hE, q, xc, rfl, hA⟩
  have HZ4 := Lib.hid ((hE.below.block _ (lt_of_block HZ3.out)).trans HZ3.out)
  have HT4 := Lib.hid ((hE.below.block _ (lt_of_block HT3.out)).trans HT3.out)
  have HE4 := Lib.hid (Ext.trans HE3.out hE)
  have HS := Lib.hid (show w.heap.size < w3.heap.size from lt_of_block HZ3.out)
  have HA := Lib.hid hA
  clear hE hA
  clear d0 d1 d2 d3 d4 e0 e1 e2 e3 f0 l0 l1
  obtain ⟨xk, xo, xn, xv, xs⟩ := x
  dsimp only [Ex.val, Ex.kind, Ex.op, Ex.name, Ex.value, Ex.args]
  obtain ⟨xm, hxm⟩ : ∃ m, xs.length = m := ⟨_, rfl⟩
  rw [hxm]
  have HXM := Lib.hid hxm
  clear hxm
  go_upto_region 8 with fail
  obtain ⟨w5, hw5⟩ : ∃ W, w4.alloc (.cells #[.int .i64 xk, .int .i64 xo, sV xn, .int .i64 xv, .slice q xm xc] 25) = W := ⟨_, rfl⟩
  have hE : Ext w4 w5 := by rw [← hw5]; exact ext_alloc _ _
  have HX5 := Lib.hid (show w5.heap[w4.heap.size]? = some (.cells #[.int .i64 xk, .int .i64 xo, sV xn, .int .i64 xv, .slice q xm xc] 25 (0, 0)) from by rw [← hw5]; exact alloc_here _ _)
  have HZ5 := Lib.hid ((hE.below.block _ (lt_of_block HZ4.out)).trans HZ4.out)
  have HT5 := Lib.hid ((hE.below.block _ (lt_of_block HT4.out)).trans HT4.out)
  have HE5 := Lib.hid (Ext.trans HE4.out hE)
  have HAM := Lib.hid (HA.out.ext hE)
  clear hE
  first | rw [hw5] | skip
  clear hw5
  generalize w4.heap.size = XB at *
  have d0 := cell_of (i := 0) HZ5.out rfl
  have d1 := cell_of (i := 1) HZ5.out rfl
  have d2 := cell_of (i := 2) HZ5.out rfl
  have d3 := cell_of (i := 3) HZ5.out rfl
  have d4 := cell_of (i := 4) HZ5.out rfl
  have e0 := cell_of (i := 0) HT5.out rfl
  have e1 := cell_of (i := 1) HT5.out rfl
  have e2 := cell_of (i := 2) HT5.out rfl
  have e3 := cell_of (i := 3) HT5.out rfl
  have f0 : ∀ i, w5.frozen? ⟨w.heap.size, i, none⟩ = false := fun i => free_of HZ5.out
  have l0 : w.heap.size < w5.heap.size := lt_of_block HZ5.out
  have l1 : TB < w5.heap.size := lt_of_block HT5.out
  go_wp2_with fail
  refine (K33.out _).mono ?_
  intro w6 hE
  have HZ6 := Lib.hid ((hE.block _ (lt_of_block HZ5.out)).trans HZ5.out)
  have HT6 := Lib.hid ((hE.block _ (lt_of_block HT5.out)).trans HT5.out)
  have HX6 := Lib.hid ((hE.block _ (lt_of_block HX5.out)).trans HX5.out)
  have HAN := Lib.hid (HAM.out.ext hE)
  have HE6 := Lib.hid (Ext.trans HE5.out hE)
  clear hE
  clear d0 d1 d2 d3 d4 e0 e1 e2 e3 f0 l0 l1
  have d0 := cell_of (i := 0) HZ6.out rfl
  have d1 := cell_of (i := 1) HZ6.out rfl
  have d2 := cell_of (i := 2) HZ6.out rfl
  have d3 := cell_of (i := 3) HZ6.out rfl
  have d4 := cell_of (i := 4) HZ6.out rfl
  have e0 := cell_of (i := 0) HT6.out rfl
  have e1 := cell_of (i := 1) HT6.out rfl
  have e2 := cell_of (i := 2) HT6.out rfl
  have e3 := cell_of (i := 3) HT6.out rfl
  have f0 : ∀ i, w6.frozen? ⟨w.heap.size, i, none⟩ = false := fun i => free_of HZ6.out
  have l0 : w.heap.size < w6.heap.size := lt_of_block HZ6.out
  have l1 : TB < w6.heap.size := lt_of_block HT6.out
  have y0 := cell_of (i := 0) HX6.out rfl
  have y1 := cell_of (i := 1) HX6.out rfl
  have y2 := cell_of (i := 2) HX6.out rfl
  have y3 := cell_of (i := 3) HX6.out rfl
  have y4 := cell_of (i := 4) HX6.out rfl
  go_wp2
  obtain ⟨W', hW', h3, h4, h5⟩ := put5n HZ6.out rfl (.int .i64 3) (.int .i64 1) (.string { data := #[] }) (.int .i64 0) (.slice (some ⟨w6.heap.size, 0, none⟩) 1 1)
  rw [hW']
  have hsz9 : W'.heap.size = w6.heap.size := by rw [← hW']; simp
  have hE9 : Ext W' (W'.alloc (.cells #[.int .i64 xk, .int .i64 xo, sV xn, .int .i64 xv, .slice q xm xc] 25)) := ext_alloc _ _
  have hb9 := alloc_here W' (.cells #[.int .i64 xk, .int .i64 xo, sV xn, .int .i64 xv, .slice q xm xc] 25)
  rw [hsz9] at hb9
  have hz9 := (hE9.below.block _ (lt_of_block h3)).trans h3
  have g0 := cell_of (i := 0) hz9 rfl
  have g1 := cell_of (i := 1) hz9 rfl
  have g2 := cell_of (i := 2) hz9 rfl
  have g3 := cell_of (i := 3) hz9 rfl
  have g4 := cell_of (i := 4) hz9 rfl
  have hG : w.heap.size < w6.heap.size := lt_of_block HZ6.out
  exact bodyPost_ret (v := .tuple #[.agg #[.int .i64 3, .int .i64 1, .string { data := #[] }, .int .i64 0, .slice (some ⟨w6.heap.size, 0, none⟩) 1 1], .int .i64 (j : Int), .bool true]) (by simp [results, Tryz.f64, go_sem, g0, g1, g2, g3, g4]) rfl (by
    rw [HRT.out]
    exact ⟨Below.trans (Below.trans HE6.out (h4 _ (Nat.le_refl _))) (hE9.below.mono (by omega)), some ⟨w6.heap.size, 0, none⟩, 1, rfl, at_un (by decide) (hb9.trans (by rw [← HXM.out]; rfl)) (Nat.le_of_lt hG) ((HAN.out.keep (fun b hb hl => ⟨by have := HS.out; show w.heap.size ≤ b; omega, h5 b (by have := HS.out; omega)⟩)).ext hE9)⟩)
set_option maxRecDepth 100000 in
set_option maxHeartbeats 8000000 in
theorem rfOpdNo (l : List Tk) (p : Option Addr) (c k : Nat) (r : Res) (w : World) (hP : TkRow w p l) (hl : l.length ≤ 100000) (hk : k ≤ l.length) (hX : ∀ t ∈ l, t.text.length ≤ 140737488351232) (hR : Rd l .opd k r) (s33 : sgB l k [33] = true) (x : Ex) (j : Nat) (IH : ∀ W, Ext w W → Calls Tryz.prog 64 #[.slice p l.length c, .int .i64 ((k : Int) + 1)] W (RfPost (.ok x j) W)) (hrj : r = .ok (unX 2 x) j) :
    Calls Tryz.prog 64 #[.slice p l.length c, .int .i64 (k : Int)] w (RfPost r w) := by
  have hX0 : (l.getD k tk0).text.length ≤ 140737488351232 := by
    rcases Nat.lt_or_ge k l.length with h | h
    · rw [getD_some h]; exact hX _ (List.getElem_mem h)
    · rw [getD_out h]; simp [tk0]
  have KNX := Lib.hid (fun W (hW : Ext w W) => rfNext_any l p c k W (hP.ext hW) (by omega) (by omega))
  have hr := hrj
  rw [sgB_getD] at s33
  have KIH := Lib.hid IH
  clear hR IH hrj
  generalize l.getD k tk0 = T at *
  obtain ⟨tk, tx, tv, tp⟩ := T
  dsimp only [TV] at *
  obtain ⟨rfl, rfl⟩ := of_decide_eq_true s33
  have K45 := Lib.hid (fun W => (show Gives Tryz.prog 96 #[.agg #[.int .i64 3, sV [33], .int .i64 tv, .int .i64 tp], .string { data := #[45] }] W (.bool false) from by
    have := rfIs_any ⟨3, [33], tv, tp⟩ [45] W
    rw [decide_eq_false (fun e => by cases e.2)] at this
    exact this))
  have K33 := Lib.hid (fun W => (show Gives Tryz.prog 96 #[.agg #[.int .i64 3, sV [33], .int .i64 tv, .int .i64 tp], .string { data := #[33] }] W (.bool true) from by
    have := rfIs_any ⟨3, [33], tv, tp⟩ [33] W
    rw [decide_eq_true ⟨rfl, rfl⟩] at this
    exact this))
  have HRT := Lib.hid hr
  clear hr s33
  go_enter Tryz.func64, Tryz.ntmps64
  go_wp2_with fail
  refine (KNX.out _ (ext_alloc _ _)).mono ?_
  intro w1 hE
  obtain ⟨hz, hE1⟩ := kept_new hE
  have HZ1 := Lib.hid hz
  have HE1 := Lib.hid hE1
  clear hE hE1 hz
  obtain ⟨w2, hw2⟩ : ∃ W, w1.alloc (.cells #[.int .i64 3, sV [33], .int .i64 tv, .int .i64 tp] 36) = W := ⟨_, rfl⟩
  have hE12 : Ext w1 w2 := by rw [← hw2]; exact ext_alloc _ _
  have HT2 := Lib.hid (show w2.heap[w1.heap.size]? = some (.cells #[.int .i64 3, sV [33], .int .i64 tv, .int .i64 tp] 36 (0, 0)) from by rw [← hw2]; exact alloc_here _ _)
  have HZ2 := Lib.hid ((hE12.below.block _ (lt_of_block HZ1.out)).trans HZ1.out)
  have HE2 := Lib.hid (Ext.trans HE1.out hE12)
  go_upto_region 2 with fail
  try rw [hw2]
  clear hw2 hE12
  generalize w1.heap.size = TB at *
  have d0 := cell_of (i := 0) HZ2.out rfl
  have d1 := cell_of (i := 1) HZ2.out rfl
  have d2 := cell_of (i := 2) HZ2.out rfl
  have d3 := cell_of (i := 3) HZ2.out rfl
  have d4 := cell_of (i := 4) HZ2.out rfl
  have e0 := cell_of (i := 0) HT2.out rfl
  have e1 := cell_of (i := 1) HT2.out rfl
  have e2 := cell_of (i := 2) HT2.out rfl
  have e3 := cell_of (i := 3) HT2.out rfl
  have f0 : ∀ i, w2.frozen? ⟨w.heap.size, i, none⟩ = false := fun i => free_of HZ2.out
  have l0 : w.heap.size < w2.heap.size := lt_of_block HZ2.out
  have l1 : TB < w2.heap.size := lt_of_block HT2.out
  go_wp2_with fail
  refine (K45.out _).mono ?_
  intro w3 hE
  have HZ3 := Lib.hid ((hE.block _ (lt_of_block HZ2.out)).trans HZ2.out)
  have HT3 := Lib.hid ((hE.block _ (lt_of_block HT2.out)).trans HT2.out)
  have HE3 := Lib.hid (Ext.trans HE2.out hE)
  clear hE
  clear d0 d1 d2 d3 d4 e0 e1 e2 e3 f0 l0 l1
  have d0 := cell_of (i := 0) HZ3.out rfl
  have d1 := cell_of (i := 1) HZ3.out rfl
  have d2 := cell_of (i := 2) HZ3.out rfl
  have d3 := cell_of (i := 3) HZ3.out rfl
  have d4 := cell_of (i := 4) HZ3.out rfl
  have e0 := cell_of (i := 0) HT3.out rfl
  have e1 := cell_of (i := 1) HT3.out rfl
  have e2 := cell_of (i := 2) HT3.out rfl
  have e3 := cell_of (i := 3) HT3.out rfl
  have f0 : ∀ i, w3.frozen? ⟨w.heap.size, i, none⟩ = false := fun i => free_of HZ3.out
  have l0 : w.heap.size < w3.heap.size := lt_of_block HZ3.out
  have l1 : TB < w3.heap.size := lt_of_block HT3.out
  go_wp2_with fail
  refine (K33.out _).mono ?_
  intro w4 hE
  have HZ4 := Lib.hid ((hE.block _ (lt_of_block HZ3.out)).trans HZ3.out)
  have HT4 := Lib.hid ((hE.block _ (lt_of_block HT3.out)).trans HT3.out)
  have HE4 := Lib.hid (Ext.trans HE3.out hE)
  clear hE
  clear d0 d1 d2 d3 d4 e0 e1 e2 e3 f0 l0 l1
  have d0 := cell_of (i := 0) HZ4.out rfl
  have d1 := cell_of (i := 1) HZ4.out rfl
  have d2 := cell_of (i := 2) HZ4.out rfl
  have d3 := cell_of (i := 3) HZ4.out rfl
  have d4 := cell_of (i := 4) HZ4.out rfl
  have e0 := cell_of (i := 0) HT4.out rfl
  have e1 := cell_of (i := 1) HT4.out rfl
  have e2 := cell_of (i := 2) HT4.out rfl
  have e3 := cell_of (i := 3) HT4.out rfl
  have f0 : ∀ i, w4.frozen? ⟨w.heap.size, i, none⟩ = false := fun i => free_of HZ4.out
  have l0 : w.heap.size < w4.heap.size := lt_of_block HZ4.out
  have l1 : TB < w4.heap.size := lt_of_block HT4.out
  go_wp2_with fail
  refine (show Calls _ _ _ _ _ from KIH.out _ HE4.out).mono ?_
  rintro _ w5 ⟨hE, q, xc, rfl, hA⟩
  have HZ5 := Lib.hid ((hE.below.block _ (lt_of_block HZ4.out)).trans HZ4.out)
  have HT5 := Lib.hid ((hE.below.block _ (lt_of_block HT4.out)).trans HT4.out)
  have HE5 := Lib.hid (Ext.trans HE4.out hE)
  have HS := Lib.hid (show w.heap.size < w4.heap.size from lt_of_block HZ4.out)
  have HA := Lib.hid hA
  clear hE hA
  clear d0 d1 d2 d3 d4 e0 e1 e2 e3 f0 l0 l1
  obtain ⟨xk, xo, xn, xv, xs⟩ := x
  dsimp only [Ex.val, Ex.kind, Ex.op, Ex.name, Ex.value, Ex.args]
  obtain ⟨xm, hxm⟩ : ∃ m, xs.length = m := ⟨_, rfl⟩
  rw [hxm]
  have HXM := Lib.hid hxm
  clear hxm
  go_upto_region 8 with fail
  obtain ⟨w6, hw6⟩ : ∃ W, w5.alloc (.cells #[.int .i64 xk, .int .i64 xo, sV xn, .int .i64 xv, .slice q xm xc] 25) = W := ⟨_, rfl⟩
  have hE : Ext w5 w6 := by rw [← hw6]; exact ext_alloc _ _
  have HX6 := Lib.hid (show w6.heap[w5.heap.size]? = some (.cells #[.int .i64 xk, .int .i64 xo, sV xn, .int .i64 xv, .slice q xm xc] 25 (0, 0)) from by rw [← hw6]; exact alloc_here _ _)
  have HZ6 := Lib.hid ((hE.below.block _ (lt_of_block HZ5.out)).trans HZ5.out)
  have HT6 := Lib.hid ((hE.below.block _ (lt_of_block HT5.out)).trans HT5.out)
  have HE6 := Lib.hid (Ext.trans HE5.out hE)
  have HAM := Lib.hid (HA.out.ext hE)
  clear hE
  first | rw [hw6] | skip
  clear hw6
  generalize w5.heap.size = XB at *
  have d0 := cell_of (i := 0) HZ6.out rfl
  have d1 := cell_of (i := 1) HZ6.out rfl
  have d2 := cell_of (i := 2) HZ6.out rfl
  have d3 := cell_of (i := 3) HZ6.out rfl
  have d4 := cell_of (i := 4) HZ6.out rfl
  have e0 := cell_of (i := 0) HT6.out rfl
  have e1 := cell_of (i := 1) HT6.out rfl
  have e2 := cell_of (i := 2) HT6.out rfl
  have e3 := cell_of (i := 3) HT6.out rfl
  have f0 : ∀ i, w6.frozen? ⟨w.heap.size, i, none⟩ = false := fun i => free_of HZ6.out
  have l0 : w.heap.size < w6.heap.size := lt_of_block HZ6.out
  have l1 : TB < w6.heap.size := lt_of_block HT6.out
  go_wp2_with fail
  refine (K33.out _).mono ?_
  intro w7 hE
  have HZ7 := Lib.hid ((hE.block _ (lt_of_block HZ6.out)).trans HZ6.out)
  have HT7 := Lib.hid ((hE.block _ (lt_of_block HT6.out)).trans HT6.out)
  have HX7 := Lib.hid ((hE.block _ (lt_of_block HX6.out)).trans HX6.out)
  have HAN := Lib.hid (HAM.out.ext hE)
  have HE7 := Lib.hid (Ext.trans HE6.out hE)
  clear hE
  clear d0 d1 d2 d3 d4 e0 e1 e2 e3 f0 l0 l1
  have d0 := cell_of (i := 0) HZ7.out rfl
  have d1 := cell_of (i := 1) HZ7.out rfl
  have d2 := cell_of (i := 2) HZ7.out rfl
  have d3 := cell_of (i := 3) HZ7.out rfl
  have d4 := cell_of (i := 4) HZ7.out rfl
  have e0 := cell_of (i := 0) HT7.out rfl
  have e1 := cell_of (i := 1) HT7.out rfl
  have e2 := cell_of (i := 2) HT7.out rfl
  have e3 := cell_of (i := 3) HT7.out rfl
  have f0 : ∀ i, w7.frozen? ⟨w.heap.size, i, none⟩ = false := fun i => free_of HZ7.out
  have l0 : w.heap.size < w7.heap.size := lt_of_block HZ7.out
  have l1 : TB < w7.heap.size := lt_of_block HT7.out
  have y0 := cell_of (i := 0) HX7.out rfl
  have y1 := cell_of (i := 1) HX7.out rfl
  have y2 := cell_of (i := 2) HX7.out rfl
  have y3 := cell_of (i := 3) HX7.out rfl
  have y4 := cell_of (i := 4) HX7.out rfl
  go_wp2
  obtain ⟨W', hW', h3, h4, h5⟩ := put5n HZ7.out rfl (.int .i64 3) (.int .i64 2) (.string { data := #[] }) (.int .i64 0) (.slice (some ⟨w7.heap.size, 0, none⟩) 1 1)
  rw [hW']
  have hsz9 : W'.heap.size = w7.heap.size := by rw [← hW']; simp
  have hE9 : Ext W' (W'.alloc (.cells #[.int .i64 xk, .int .i64 xo, sV xn, .int .i64 xv, .slice q xm xc] 25)) := ext_alloc _ _
  have hb9 := alloc_here W' (.cells #[.int .i64 xk, .int .i64 xo, sV xn, .int .i64 xv, .slice q xm xc] 25)
  rw [hsz9] at hb9
  have hz9 := (hE9.below.block _ (lt_of_block h3)).trans h3
  have g0 := cell_of (i := 0) hz9 rfl
  have g1 := cell_of (i := 1) hz9 rfl
  have g2 := cell_of (i := 2) hz9 rfl
  have g3 := cell_of (i := 3) hz9 rfl
  have g4 := cell_of (i := 4) hz9 rfl
  have hG : w.heap.size < w7.heap.size := lt_of_block HZ7.out
  exact bodyPost_ret (v := .tuple #[.agg #[.int .i64 3, .int .i64 2, .string { data := #[] }, .int .i64 0, .slice (some ⟨w7.heap.size, 0, none⟩) 1 1], .int .i64 (j : Int), .bool true]) (by simp [results, Tryz.f64, go_sem, g0, g1, g2, g3, g4]) rfl (by
    rw [HRT.out]
    exact ⟨Below.trans (Below.trans HE7.out (h4 _ (Nat.le_refl _))) (hE9.below.mono (by omega)), some ⟨w7.heap.size, 0, none⟩, 1, rfl, at_un (by decide) (hb9.trans (by rw [← HXM.out]; rfl)) (Nat.le_of_lt hG) ((HAN.out.keep (fun b hb hl => ⟨by have := HS.out; show w.heap.size ≤ b; omega, h5 b (by have := HS.out; omega)⟩)).ext hE9)⟩)
end Go.Proofs.YtmokejjndkibhaaGreatDoor

namespace Go.Proofs.YtmokejjndkibhaaGreatDoor
open Go.RowKit Go.Shelf Ex
set_option linter.unusedVariables false
set_option linter.unusedSimpArgs false

set_option maxRecDepth 100000 in
set_option maxHeartbeats 8000000 in
theorem rfOpdParB (l : List Tk) (p : Option Addr) (c k : Nat) (r : Res) (w : World) (hP : TkRow w p l) (hl : l.length ≤ 100000) (hk : k ≤ l.length) (hX : ∀ t ∈ l, t.text.length ≤ 140737488351232) (hR : Rd l .opd k r) (s40 : sgB l k [40] = true) (j : Nat) (IH : ∀ W, Ext w W → Calls Tryz.prog 37 #[.slice p l.length c, .int .i64 ((k : Int) + 1), .int .i64 1] W (RfPost (.bad j) W)) (hrj : r = .bad j) :
    Calls Tryz.prog 64 #[.slice p l.length c, .int .i64 (k : Int)] w (RfPost r w) := by
  have hX0 : (l.getD k tk0).text.length ≤ 140737488351232 := by
    rcases Nat.lt_or_ge k l.length with h | h
    · rw [getD_some h]; exact hX _ (List.getElem_mem h)
    · rw [getD_out h]; simp [tk0]
  have KNX := Lib.hid (fun W (hW : Ext w W) => rfNext_any l p c k W (hP.ext hW) (by omega) (by omega))
  have hr := hrj
  rw [sgB_getD] at s40
  have KIH := Lib.hid IH
  clear hR IH hrj
  generalize l.getD k tk0 = T at *
  obtain ⟨tk, tx, tv, tp⟩ := T
  dsimp only [TV] at *
  obtain ⟨rfl, rfl⟩ := of_decide_eq_true s40
  have K45 := Lib.hid (fun W => (show Gives Tryz.prog 96 #[.agg #[.int .i64 3, sV [40], .int .i64 tv, .int .i64 tp], .string { data := #[45] }] W (.bool false) from by
    have := rfIs_any ⟨3, [40], tv, tp⟩ [45] W
    rw [decide_eq_false (fun e => by cases e.2)] at this
    exact this))
  have K33 := Lib.hid (fun W => (show Gives Tryz.prog 96 #[.agg #[.int .i64 3, sV [40], .int .i64 tv, .int .i64 tp], .string { data := #[33] }] W (.bool false) from by
    have := rfIs_any ⟨3, [40], tv, tp⟩ [33] W
    rw [decide_eq_false (fun e => by cases e.2)] at this
    exact this))
  have K40 := Lib.hid (fun W => (show Gives Tryz.prog 96 #[.agg #[.int .i64 3, sV [40], .int .i64 tv, .int .i64 tp], .string { data := #[40] }] W (.bool true) from by
    have := rfIs_any ⟨3, [40], tv, tp⟩ [40] W
    rw [decide_eq_true ⟨rfl, rfl⟩] at this
    exact this))
  have HRT := Lib.hid hr
  clear hr s40
  go_enter Tryz.func64, Tryz.ntmps64
  go_wp2_with fail
  refine (KNX.out _ (ext_alloc _ _)).mono ?_
  intro w1 hE
  obtain ⟨hz, hE1⟩ := kept_new hE
  have HZ1 := Lib.hid hz
  have HE1 := Lib.hid hE1
  clear hE hE1 hz
  obtain ⟨w2, hw2⟩ : ∃ W, w1.alloc (.cells #[.int .i64 3, sV [40], .int .i64 tv, .int .i64 tp] 36) = W := ⟨_, rfl⟩
  have hE12 : Ext w1 w2 := by rw [← hw2]; exact ext_alloc _ _
  have HT2 := Lib.hid (show w2.heap[w1.heap.size]? = some (.cells #[.int .i64 3, sV [40], .int .i64 tv, .int .i64 tp] 36 (0, 0)) from by rw [← hw2]; exact alloc_here _ _)
  have HZ2 := Lib.hid ((hE12.below.block _ (lt_of_block HZ1.out)).trans HZ1.out)
  have HE2 := Lib.hid (Ext.trans HE1.out hE12)
  go_upto_region 2 with fail
  try rw [hw2]
  clear hw2 hE12
  generalize w1.heap.size = TB at *
  have d0 := cell_of (i := 0) HZ2.out rfl
  have d1 := cell_of (i := 1) HZ2.out rfl
  have d2 := cell_of (i := 2) HZ2.out rfl
  have d3 := cell_of (i := 3) HZ2.out rfl
  have d4 := cell_of (i := 4) HZ2.out rfl
  have e0 := cell_of (i := 0) HT2.out rfl
  have e1 := cell_of (i := 1) HT2.out rfl
  have e2 := cell_of (i := 2) HT2.out rfl
  have e3 := cell_of (i := 3) HT2.out rfl
  have f0 : ∀ i, w2.frozen? ⟨w.heap.size, i, none⟩ = false := fun i => free_of HZ2.out
  have l0 : w.heap.size < w2.heap.size := lt_of_block HZ2.out
  have l1 : TB < w2.heap.size := lt_of_block HT2.out
  go_wp2_with fail
  refine (K45.out _).mono ?_
  intro w3 hE
  have HZ3 := Lib.hid ((hE.block _ (lt_of_block HZ2.out)).trans HZ2.out)
  have HT3 := Lib.hid ((hE.block _ (lt_of_block HT2.out)).trans HT2.out)
  have HE3 := Lib.hid (Ext.trans HE2.out hE)
  clear hE
  clear d0 d1 d2 d3 d4 e0 e1 e2 e3 f0 l0 l1
  have d0 := cell_of (i := 0) HZ3.out rfl
  have d1 := cell_of (i := 1) HZ3.out rfl
  have d2 := cell_of (i := 2) HZ3.out rfl
  have d3 := cell_of (i := 3) HZ3.out rfl
  have d4 := cell_of (i := 4) HZ3.out rfl
  have e0 := cell_of (i := 0) HT3.out rfl
  have e1 := cell_of (i := 1) HT3.out rfl
  have e2 := cell_of (i := 2) HT3.out rfl
  have e3 := cell_of (i := 3) HT3.out rfl
  have f0 : ∀ i, w3.frozen? ⟨w.heap.size, i, none⟩ = false := fun i => free_of HZ3.out
  have l0 : w.heap.size < w3.heap.size := lt_of_block HZ3.out
  have l1 : TB < w3.heap.size := lt_of_block HT3.out
  go_wp2_with fail
  refine (K33.out _).mono ?_
  intro w4 hE
  have HZ4 := Lib.hid ((hE.block _ (lt_of_block HZ3.out)).trans HZ3.out)
  have HT4 := Lib.hid ((hE.block _ (lt_of_block HT3.out)).trans HT3.out)
  have HE4 := Lib.hid (Ext.trans HE3.out hE)
  clear hE
  clear d0 d1 d2 d3 d4 e0 e1 e2 e3 f0 l0 l1
  have d0 := cell_of (i := 0) HZ4.out rfl
  have d1 := cell_of (i := 1) HZ4.out rfl
  have d2 := cell_of (i := 2) HZ4.out rfl
  have d3 := cell_of (i := 3) HZ4.out rfl
  have d4 := cell_of (i := 4) HZ4.out rfl
  have e0 := cell_of (i := 0) HT4.out rfl
  have e1 := cell_of (i := 1) HT4.out rfl
  have e2 := cell_of (i := 2) HT4.out rfl
  have e3 := cell_of (i := 3) HT4.out rfl
  have f0 : ∀ i, w4.frozen? ⟨w.heap.size, i, none⟩ = false := fun i => free_of HZ4.out
  have l0 : w.heap.size < w4.heap.size := lt_of_block HZ4.out
  have l1 : TB < w4.heap.size := lt_of_block HT4.out
  go_wp2_with fail
  refine (K40.out _).mono ?_
  intro w5 hE
  have HZ5 := Lib.hid ((hE.block _ (lt_of_block HZ4.out)).trans HZ4.out)
  have HT5 := Lib.hid ((hE.block _ (lt_of_block HT4.out)).trans HT4.out)
  have HE5 := Lib.hid (Ext.trans HE4.out hE)
  clear hE
  clear d0 d1 d2 d3 d4 e0 e1 e2 e3 f0 l0 l1
  have d0 := cell_of (i := 0) HZ5.out rfl
  have d1 := cell_of (i := 1) HZ5.out rfl
  have d2 := cell_of (i := 2) HZ5.out rfl
  have d3 := cell_of (i := 3) HZ5.out rfl
  have d4 := cell_of (i := 4) HZ5.out rfl
  have e0 := cell_of (i := 0) HT5.out rfl
  have e1 := cell_of (i := 1) HT5.out rfl
  have e2 := cell_of (i := 2) HT5.out rfl
  have e3 := cell_of (i := 3) HT5.out rfl
  have f0 : ∀ i, w5.frozen? ⟨w.heap.size, i, none⟩ = false := fun i => free_of HZ5.out
  have l0 : w.heap.size < w5.heap.size := lt_of_block HZ5.out
  have l1 : TB < w5.heap.size := lt_of_block HT5.out
  go_wp2_with fail
  refine (show Calls _ _ _ _ _ from KIH.out _ HE5.out).mono ?_
  rintro _ w6 ⟨hE, rfl⟩
  have HZ6 := Lib.hid ((hE.below.block _ (lt_of_block HZ5.out)).trans HZ5.out)
  have HT6 := Lib.hid ((hE.below.block _ (lt_of_block HT5.out)).trans HT5.out)
  have HE6 := Lib.hid (Ext.trans HE5.out hE)
  clear hE
  clear d0 d1 d2 d3 d4 e0 e1 e2 e3 f0 l0 l1
  dsimp only [Ex.val, exZ, Ex.kind, Ex.op, Ex.name, Ex.value, Ex.args, List.length_nil]
  go_upto_region 17 with fail
  obtain ⟨w7, hw7⟩ : ∃ W, w6.alloc (.cells #[.int .i64 0, .int .i64 0, sV [], .int .i64 0, .slice none 0 0] 25) = W := ⟨_, rfl⟩
  have hE : Ext w6 w7 := by rw [← hw7]; exact ext_alloc _ _
  have HX7 := Lib.hid (show w7.heap[w6.heap.size]? = some (.cells #[.int .i64 0, .int .i64 0, sV [], .int .i64 0, .slice none 0 0] 25 (0, 0)) from by rw [← hw7]; exact alloc_here _ _)
  have HZ7 := Lib.hid ((hE.below.block _ (lt_of_block HZ6.out)).trans HZ6.out)
  have HT7 := Lib.hid ((hE.below.block _ (lt_of_block HT6.out)).trans HT6.out)
  have HE7 := Lib.hid (Ext.trans HE6.out hE)
  clear hE
  first | rw [hw7] | (simp only [sV_nil] at hw7 ⊢; rw [hw7])
  clear hw7
  have d0 := cell_of (i := 0) HZ7.out rfl
  have d1 := cell_of (i := 1) HZ7.out rfl
  have d2 := cell_of (i := 2) HZ7.out rfl
  have d3 := cell_of (i := 3) HZ7.out rfl
  have d4 := cell_of (i := 4) HZ7.out rfl
  have e0 := cell_of (i := 0) HT7.out rfl
  have e1 := cell_of (i := 1) HT7.out rfl
  have e2 := cell_of (i := 2) HT7.out rfl
  have e3 := cell_of (i := 3) HT7.out rfl
  have f0 : ∀ i, w7.frozen? ⟨w.heap.size, i, none⟩ = false := fun i => free_of HZ7.out
  have l0 : w.heap.size < w7.heap.size := lt_of_block HZ7.out
  have l1 : TB < w7.heap.size := lt_of_block HT7.out
  go_wp2
  obtain ⟨W', hW', h3, h4, h5⟩ := put5n HZ7.out rfl (.int .i64 0) (.int .i64 0) (.string { data := #[] }) (.int .i64 0) (.slice none 0 0)
  rw [hW']
  have g0 := cell_of (i := 0) h3 rfl
  have g1 := cell_of (i := 1) h3 rfl
  have g2 := cell_of (i := 2) h3 rfl
  have g3 := cell_of (i := 3) h3 rfl
  have g4 := cell_of (i := 4) h3 rfl
  exact bodyPost_ret (v := .tuple #[.agg #[.int .i64 0, .int .i64 0, .string { data := #[] }, .int .i64 0, .slice none 0 0], .int .i64 (j : Int), .bool false]) (by simp [results, Tryz.f64, go_sem, g0, g1, g2, g3, g4]) rfl (by rw [HRT.out]; exact ⟨Below.trans HE7.out (h4 _ (Nat.le_refl _)), rfl⟩)
set_option maxRecDepth 100000 in
set_option maxHeartbeats 8000000 in
theorem rfOpdParN (l : List Tk) (p : Option Addr) (c k : Nat) (r : Res) (w : World) (hP : TkRow w p l) (hl : l.length ≤ 100000) (hk : k ≤ l.length) (hX : ∀ t ∈ l, t.text.length ≤ 140737488351232) (hR : Rd l .opd k r) (s40 : sgB l k [40] = true) (x : Ex) (j : Nat) (hj : j ≤ l.length) (s41 : sgB l j [41] = false) (IH : ∀ W, Ext w W → Calls Tryz.prog 37 #[.slice p l.length c, .int .i64 ((k : Int) + 1), .int .i64 1] W (RfPost (.ok x j) W)) (hrj : r = .bad j) :
    Calls Tryz.prog 64 #[.slice p l.length c, .int .i64 (k : Int)] w (RfPost r w) := by
  have hX0 : (l.getD k tk0).text.length ≤ 140737488351232 := by
    rcases Nat.lt_or_ge k l.length with h | h
    · rw [getD_some h]; exact hX _ (List.getElem_mem h)
    · rw [getD_out h]; simp [tk0]
  have KNX := Lib.hid (fun W (hW : Ext w W) => rfNext_any l p c k W (hP.ext hW) (by omega) (by omega))
  have hr := hrj
  rw [sgB_getD] at s40
  have KIH := Lib.hid IH
  rw [sgB_getD] at s41
  obtain ⟨T2, hT2⟩ : ∃ T, l.getD j tk0 = T := ⟨_, rfl⟩
  rw [hT2] at s41
  have KNJ := Lib.hid (fun W (hW : Ext w W) => (by have := rfNext_any l p c j W (hP.ext hW) (by omega) (by omega); rw [hT2] at this; exact this : Gives Tryz.prog 66 #[.slice p l.length c, .int .i64 (j : Int)] W (TV T2)))
  have K41 := Lib.hid (fun W => (by have := rfIs_any T2 [41] W; rw [s41] at this; exact this : Gives Tryz.prog 96 #[TV T2, .string { data := #[41] }] W (.bool false)))
  obtain ⟨uk, ux, uv, up⟩ := T2
  clear hT2 s41
  clear hR IH hrj
  generalize l.getD k tk0 = T at *
  obtain ⟨tk, tx, tv, tp⟩ := T
  dsimp only [TV] at *
  obtain ⟨rfl, rfl⟩ := of_decide_eq_true s40
  have K45 := Lib.hid (fun W => (show Gives Tryz.prog 96 #[.agg #[.int .i64 3, sV [40], .int .i64 tv, .int .i64 tp], .string { data := #[45] }] W (.bool false) from by
    have := rfIs_any ⟨3, [40], tv, tp⟩ [45] W
    rw [decide_eq_false (fun e => by cases e.2)] at this
    exact this))
  have K33 := Lib.hid (fun W => (show Gives Tryz.prog 96 #[.agg #[.int .i64 3, sV [40], .int .i64 tv, .int .i64 tp], .string { data := #[33] }] W (.bool false) from by
    have := rfIs_any ⟨3, [40], tv, tp⟩ [33] W
    rw [decide_eq_false (fun e => by cases e.2)] at this
    exact this))
  have K40 := Lib.hid (fun W => (show Gives Tryz.prog 96 #[.agg #[.int .i64 3, sV [40], .int .i64 tv, .int .i64 tp], .string { data := #[40] }] W (.bool true) from by
    have := rfIs_any ⟨3, [40], tv, tp⟩ [40] W
    rw [decide_eq_true ⟨rfl, rfl⟩] at this
    exact this))
  have HRT := Lib.hid hr
  clear hr s40
  go_enter Tryz.func64, Tryz.ntmps64
  go_wp2_with fail
  refine (KNX.out _ (ext_alloc _ _)).mono ?_
  intro w1 hE
  obtain ⟨hz, hE1⟩ := kept_new hE
  have HZ1 := Lib.hid hz
  have HE1 := Lib.hid hE1
  clear hE hE1 hz
  obtain ⟨w2, hw2⟩ : ∃ W, w1.alloc (.cells #[.int .i64 3, sV [40], .int .i64 tv, .int .i64 tp] 36) = W := ⟨_, rfl⟩
  have hE12 : Ext w1 w2 := by rw [← hw2]; exact ext_alloc _ _
  have HT2 := Lib.hid (show w2.heap[w1.heap.size]? = some (.cells #[.int .i64 3, sV [40], .int .i64 tv, .int .i64 tp] 36 (0, 0)) from by rw [← hw2]; exact alloc_here _ _)
  have HZ2 := Lib.hid ((hE12.below.block _ (lt_of_block HZ1.out)).trans HZ1.out)
  have HE2 := Lib.hid (Ext.trans HE1.out hE12)
  go_upto_region 2 with fail
  try rw [hw2]
  clear hw2 hE12
  generalize w1.heap.size = TB at *
  have d0 := cell_of (i := 0) HZ2.out rfl
  have d1 := cell_of (i := 1) HZ2.out rfl
  have d2 := cell_of (i := 2) HZ2.out rfl
  have d3 := cell_of (i := 3) HZ2.out rfl
  have d4 := cell_of (i := 4) HZ2.out rfl
  have e0 := cell_of (i := 0) HT2.out rfl
  have e1 := cell_of (i := 1) HT2.out rfl
  have e2 := cell_of (i := 2) HT2.out rfl
  have e3 := cell_of (i := 3) HT2.out rfl
  have f0 : ∀ i, w2.frozen? ⟨w.heap.size, i, none⟩ = false := fun i => free_of HZ2.out
  have l0 : w.heap.size < w2.heap.size := lt_of_block HZ2.out
  have l1 : TB < w2.heap.size := lt_of_block HT2.out
  go_wp2_with fail
  refine (K45.out _).mono ?_
  intro w3 hE
  have HZ3 := Lib.hid ((hE.block _ (lt_of_block HZ2.out)).trans HZ2.out)
  have HT3 := Lib.hid ((hE.block _ (lt_of_block HT2.out)).trans HT2.out)
  have HE3 := Lib.hid (Ext.trans HE2.out hE)
  clear hE
  clear d0 d1 d2 d3 d4 e0 e1 e2 e3 f0 l0 l1
  have d0 := cell_of (i := 0) HZ3.out rfl
  have d1 := cell_of (i := 1) HZ3.out rfl
  have d2 := cell_of (i := 2) HZ3.out rfl
  have d3 := cell_of (i := 3) HZ3.out rfl
  have d4 := cell_of (i := 4) HZ3.out rfl
  have e0 := cell_of (i := 0) HT3.out rfl
  have e1 := cell_of (i := 1) HT3.out rfl
  have e2 := cell_of (i := 2) HT3.out rfl
  have e3 := cell_of (i := 3) HT3.out rfl
  have f0 : ∀ i, w3.frozen? ⟨w.heap.size, i, none⟩ = false := fun i => free_of HZ3.out
  have l0 : w.heap.size < w3.heap.size := lt_of_block HZ3.out
  have l1 : TB < w3.heap.size := lt_of_block HT3.out
  go_wp2_with fail
  refine (K33.out _).mono ?_
  intro w4 hE
  have HZ4 := Lib.hid ((hE.block _ (lt_of_block HZ3.out)).trans HZ3.out)
  have HT4 := Lib.hid ((hE.block _ (lt_of_block HT3.out)).trans HT3.out)
  have HE4 := Lib.hid (Ext.trans HE3.out hE)
  clear hE
  clear d0 d1 d2 d3 d4 e0 e1 e2 e3 f0 l0 l1
  have d0 := cell_of (i := 0) HZ4.out rfl
  have d1 := cell_of (i := 1) HZ4.out rfl
  have d2 := cell_of (i := 2) HZ4.out rfl
  have d3 := cell_of (i := 3) HZ4.out rfl
  have d4 := cell_of (i := 4) HZ4.out rfl
  have e0 := cell_of (i := 0) HT4.out rfl
  have e1 := cell_of (i := 1) HT4.out rfl
  have e2 := cell_of (i := 2) HT4.out rfl
  have e3 := cell_of (i := 3) HT4.out rfl
  have f0 : ∀ i, w4.frozen? ⟨w.heap.size, i, none⟩ = false := fun i => free_of HZ4.out
  have l0 : w.heap.size < w4.heap.size := lt_of_block HZ4.out
  have l1 : TB < w4.heap.size := lt_of_block HT4.out
  go_wp2_with fail
  refine (K40.out _).mono ?_
  intro w5 hE
  have HZ5 := Lib.hid ((hE.block _ (lt_of_block HZ4.out)).trans HZ4.out)
  have HT5 := Lib.hid ((hE.block _ (lt_of_block HT4.out)).trans HT4.out)
  have HE5 := Lib.hid (Ext.trans HE4.out hE)
  clear hE
  clear d0 d1 d2 d3 d4 e0 e1 e2 e3 f0 l0 l1
  have d0 := cell_of (i := 0) HZ5.out rfl
  have d1 := cell_of (i := 1) HZ5.out rfl
  have d2 := cell_of (i := 2) HZ5.out rfl
  have d3 := cell_of (i := 3) HZ5.out rfl
  have d4 := cell_of (i := 4) HZ5.out rfl
  have e0 := cell_of (i := 0) HT5.out rfl
  have e1 := cell_of (i := 1) HT5.out rfl
  have e2 := cell_of (i := 2) HT5.out rfl
  have e3 := cell_of (i := 3) HT5.out rfl
  have f0 : ∀ i, w5.frozen? ⟨w.heap.size, i, none⟩ = false := fun i => free_of HZ5.out
  have l0 : w.heap.size < w5.heap.size := lt_of_block HZ5.out
  have l1 : TB < w5.heap.size := lt_of_block HT5.out
  go_wp2_with fail
  refine (show Calls _ _ _ _ _ from KIH.out _ HE5.out).mono ?_
  rintro _ w6 ⟨hE, q, xc, rfl, hA⟩
  have HZ6 := Lib.hid ((hE.below.block _ (lt_of_block HZ5.out)).trans HZ5.out)
  have HT6 := Lib.hid ((hE.below.block _ (lt_of_block HT5.out)).trans HT5.out)
  have HE6 := Lib.hid (Ext.trans HE5.out hE)
  have HE56 := Lib.hid hE
  have HS := Lib.hid (show w.heap.size < w5.heap.size from lt_of_block HZ5.out)
  have HA := Lib.hid hA
  clear hE hA
  clear d0 d1 d2 d3 d4 e0 e1 e2 e3 f0 l0 l1
  obtain ⟨xk, xo, xn, xv, xs⟩ := x
  dsimp only [Ex.val, Ex.kind, Ex.op, Ex.name, Ex.value, Ex.args]
  obtain ⟨xm, hxm⟩ : ∃ m, xs.length = m := ⟨_, rfl⟩
  rw [hxm]
  have HXM := Lib.hid hxm
  clear hxm
  go_upto_region 17 with fail
  obtain ⟨w7, hw7⟩ : ∃ W, w6.alloc (.cells #[.int .i64 xk, .int .i64 xo, sV xn, .int .i64 xv, .slice q xm xc] 25) = W := ⟨_, rfl⟩
  have hE : Ext w6 w7 := by rw [← hw7]; exact ext_alloc _ _
  have HX7 := Lib.hid (show w7.heap[w6.heap.size]? = some (.cells #[.int .i64 xk, .int .i64 xo, sV xn, .int .i64 xv, .slice q xm xc] 25 (0, 0)) from by rw [← hw7]; exact alloc_here _ _)
  have HZ7 := Lib.hid ((hE.below.block _ (lt_of_block HZ6.out)).trans HZ6.out)
  have HT7 := Lib.hid ((hE.below.block _ (lt_of_block HT6.out)).trans HT6.out)
  have HE7 := Lib.hid (Ext.trans HE6.out hE)
  have HAM := Lib.hid (HA.out.ext hE)
  clear hE
  first | rw [hw7] | skip
  clear hw7
  generalize w6.heap.size = XB at *
  have d0 := cell_of (i := 0) HZ7.out rfl
  have d1 := cell_of (i := 1) HZ7.out rfl
  have d2 := cell_of (i := 2) HZ7.out rfl
  have d3 := cell_of (i := 3) HZ7.out rfl
  have d4 := cell_of (i := 4) HZ7.out rfl
  have e0 := cell_of (i := 0) HT7.out rfl
  have e1 := cell_of (i := 1) HT7.out rfl
  have e2 := cell_of (i := 2) HT7.out rfl
  have e3 := cell_of (i := 3) HT7.out rfl
  have f0 : ∀ i, w7.frozen? ⟨w.heap.size, i, none⟩ = false := fun i => free_of HZ7.out
  have l0 : w.heap.size < w7.heap.size := lt_of_block HZ7.out
  have l1 : TB < w7.heap.size := lt_of_block HT7.out
  go_wp2_with fail
  refine (KNJ.out _ HE7.out).mono ?_
  intro w8 hE
  have HZ8 := Lib.hid ((hE.block _ (lt_of_block HZ7.out)).trans HZ7.out)
  have HT8 := Lib.hid ((hE.block _ (lt_of_block HT7.out)).trans HT7.out)
  have HX8 := Lib.hid ((hE.block _ (lt_of_block HX7.out)).trans HX7.out)
  have HA8 := Lib.hid (HAM.out.ext hE)
  have HE8 := Lib.hid (Ext.trans HE7.out hE)
  clear hE
  clear d0 d1 d2 d3 d4 e0 e1 e2 e3 f0 l0 l1
  have d0 := cell_of (i := 0) HZ8.out rfl
  have d1 := cell_of (i := 1) HZ8.out rfl
  have d2 := cell_of (i := 2) HZ8.out rfl
  have d3 := cell_of (i := 3) HZ8.out rfl
  have d4 := cell_of (i := 4) HZ8.out rfl
  have e0 := cell_of (i := 0) HT8.out rfl
  have e1 := cell_of (i := 1) HT8.out rfl
  have e2 := cell_of (i := 2) HT8.out rfl
  have e3 := cell_of (i := 3) HT8.out rfl
  have f0 : ∀ i, w8.frozen? ⟨w.heap.size, i, none⟩ = false := fun i => free_of HZ8.out
  have l0 : w.heap.size < w8.heap.size := lt_of_block HZ8.out
  have l1 : TB < w8.heap.size := lt_of_block HT8.out
  go_wp2_with fail
  refine (K41.out _).mono ?_
  intro w9 hE
  have HZ9 := Lib.hid ((hE.block _ (lt_of_block HZ8.out)).trans HZ8.out)
  have HT9 := Lib.hid ((hE.block _ (lt_of_block HT8.out)).trans HT8.out)
  have HX9 := Lib.hid ((hE.block _ (lt_of_block HX8.out)).trans HX8.out)
  have HA9 := Lib.hid (HA8.out.ext hE)
  have HE9 := Lib.hid (Ext.trans HE8.out hE)
  clear hE
  clear d0 d1 d2 d3 d4 e0 e1 e2 e3 f0 l0 l1
  have d0 := cell_of (i := 0) HZ9.out rfl
  have d1 := cell_of (i := 1) HZ9.out rfl
  have d2 := cell_of (i := 2) HZ9.out rfl
  have d3 := cell_of (i := 3) HZ9.out rfl
  have d4 := cell_of (i := 4) HZ9.out rfl
  have e0 := cell_of (i := 0) HT9.out rfl
  have e1 := cell_of (i := 1) HT9.out rfl
  have e2 := cell_of (i := 2) HT9.out rfl
  have e3 := cell_of (i := 3) HT9.out rfl
  have f0 : ∀ i, w9.frozen? ⟨w.heap.size, i, none⟩ = false := fun i => free_of HZ9.out
  have l0 : w.heap.size < w9.heap.size := lt_of_block HZ9.out
  have l1 : TB < w9.heap.size := lt_of_block HT9.out
  go_wp2
  obtain ⟨W', hW', h3, h4, h5⟩ := put5n HZ9.out rfl (.int .i64 0) (.int .i64 0) (.string { data := #[] }) (.int .i64 0) (.slice none 0 0)
  rw [hW']
  have g0 := cell_of (i := 0) h3 rfl
  have g1 := cell_of (i := 1) h3 rfl
  have g2 := cell_of (i := 2) h3 rfl
  have g3 := cell_of (i := 3) h3 rfl
  have g4 := cell_of (i := 4) h3 rfl
  exact bodyPost_ret (v := .tuple #[.agg #[.int .i64 0, .int .i64 0, .string { data := #[] }, .int .i64 0, .slice none 0 0], .int .i64 (j : Int), .bool false]) (by simp [results, Tryz.f64, go_sem, g0, g1, g2, g3, g4]) rfl (by rw [HRT.out]; exact ⟨Below.trans HE9.out (h4 _ (Nat.le_refl _)), rfl⟩)
set_option maxRecDepth 100000 in
set_option maxHeartbeats 8000000 in
theorem rfOpdPar (l : List Tk) (p : Option Addr) (c k : Nat) (r : Res) (w : World) (hP : TkRow w p l) (hl : l.length ≤ 100000) (hk : k ≤ l.length) (hX : ∀ t ∈ l, t.text.length ≤ 140737488351232) (hR : Rd l .opd k r) (s40 : sgB l k [40] = true) (x : Ex) (j : Nat) (hj : j ≤ l.length) (s41 : sgB l j [41] = true) (IH : ∀ W, Ext w W → Calls Tryz.prog 37 #[.slice p l.length c, .int .i64 ((k : Int) + 1), .int .i64 1] W (RfPost (.ok x j) W)) (hrj : r = .ok x (j + 1)) :
    Calls Tryz.prog 64 #[.slice p l.length c, .int .i64 (k : Int)] w (RfPost r w) := by
  have hX0 : (l.getD k tk0).text.length ≤ 140737488351232 := by
    rcases Nat.lt_or_ge k l.length with h | h
    · rw [getD_some h]; exact hX _ (List.getElem_mem h)
    · rw [getD_out h]; simp [tk0]
  have KNX := Lib.hid (fun W (hW : Ext w W) => rfNext_any l p c k W (hP.ext hW) (by omega) (by omega))
  have hr := hrj
  rw [sgB_getD] at s40
  have KIH := Lib.hid IH
  rw [sgB_getD] at s41
  obtain ⟨T2, hT2⟩ : ∃ T, l.getD j tk0 = T := ⟨_, rfl⟩
  rw [hT2] at s41
  have KNJ := Lib.hid (fun W (hW : Ext w W) => (by have := rfNext_any l p c j W (hP.ext hW) (by omega) (by omega); rw [hT2] at this; exact this : Gives Tryz.prog 66 #[.slice p l.length c, .int .i64 (j : Int)] W (TV T2)))
  have K41 := Lib.hid (fun W => (by have := rfIs_any T2 [41] W; rw [s41] at this; exact this : Gives Tryz.prog 96 #[TV T2, .string { data := #[41] }] W (.bool true)))
  obtain ⟨uk, ux, uv, up⟩ := T2
  clear hT2 s41
  clear hR IH hrj
  generalize l.getD k tk0 = T at *
  obtain ⟨tk, tx, tv, tp⟩ := T
  dsimp only [TV] at *
  obtain ⟨rfl, rfl⟩ := of_decide_eq_true s40
  have K45 := Lib.hid (fun W => (show Gives Tryz.prog 96 #[.agg #[.int .i64 3, sV [40], .int .i64 tv, .int .i64 tp], .string { data := #[45] }] W (.bool false) from by
    have := rfIs_any ⟨3, [40], tv, tp⟩ [45] W
    rw [decide_eq_false (fun e => by cases e.2)] at this
    exact this))
  have K33 := Lib.hid (fun W => (show Gives Tryz.prog 96 #[.agg #[.int .i64 3, sV [40], .int .i64 tv, .int .i64 tp], .string { data := #[33] }] W (.bool false) from by
    have := rfIs_any ⟨3, [40], tv, tp⟩ [33] W
    rw [decide_eq_false (fun e => by cases e.2)] at this
    exact this))
  have K40 := Lib.hid (fun W => (show Gives Tryz.prog 96 #[.agg #[.int .i64 3, sV [40], .int .i64 tv, .int .i64 tp], .string { data := #[40] }] W (.bool true) from by
    have := rfIs_any ⟨3, [40], tv, tp⟩ [40] W
    rw [decide_eq_true ⟨rfl, rfl⟩] at this
    exact this))
  have HRT := Lib.hid hr
  clear hr s40
  go_enter Tryz.func64, Tryz.ntmps64
  go_wp2_with fail
  refine (KNX.out _ (ext_alloc _ _)).mono ?_
  intro w1 hE
  obtain ⟨hz, hE1⟩ := kept_new hE
  have HZ1 := Lib.hid hz
  have HE1 := Lib.hid hE1
  clear hE hE1 hz
  obtain ⟨w2, hw2⟩ : ∃ W, w1.alloc (.cells #[.int .i64 3, sV [40], .int .i64 tv, .int .i64 tp] 36) = W := ⟨_, rfl⟩
  have hE12 : Ext w1 w2 := by rw [← hw2]; exact ext_alloc _ _
  have HT2 := Lib.hid (show w2.heap[w1.heap.size]? = some (.cells #[.int .i64 3, sV [40], .int .i64 tv, .int .i64 tp] 36 (0, 0)) from by rw [← hw2]; exact alloc_here _ _)
  have HZ2 := Lib.hid ((hE12.below.block _ (lt_of_block HZ1.out)).trans HZ1.out)
  have HE2 := Lib.hid (Ext.trans HE1.out hE12)
  go_upto_region 2 with fail
  try rw [hw2]
  clear hw2 hE12
  generalize w1.heap.size = TB at *
  have d0 := cell_of (i := 0) HZ2.out rfl
  have d1 := cell_of (i := 1) HZ2.out rfl
  have d2 := cell_of (i := 2) HZ2.out rfl
  have d3 := cell_of (i := 3) HZ2.out rfl
  have d4 := cell_of (i := 4) HZ2.out rfl
  have e0 := cell_of (i := 0) HT2.out rfl
  have e1 := cell_of (i := 1) HT2.out rfl
  have e2 := cell_of (i := 2) HT2.out rfl
  have e3 := cell_of (i := 3) HT2.out rfl
  have f0 : ∀ i, w2.frozen? ⟨w.heap.size, i, none⟩ = false := fun i => free_of HZ2.out
  have l0 : w.heap.size < w2.heap.size := lt_of_block HZ2.out
  have l1 : TB < w2.heap.size := lt_of_block HT2.out
  go_wp2_with fail
  refine (K45.out _).mono ?_
  intro w3 hE
  have HZ3 := Lib.hid ((hE.block _ (lt_of_block HZ2.out)).trans HZ2.out)
  have HT3 := Lib.hid ((hE.block _ (lt_of_block HT2.out)).trans HT2.out)
  have HE3 := Lib.hid (Ext.trans HE2.out hE)
  clear hE
  clear d0 d1 d2 d3 d4 e0 e1 e2 e3 f0 l0 l1
  have d0 := cell_of (i := 0) HZ3.out rfl
  have d1 := cell_of (i := 1) HZ3.out rfl
  have d2 := cell_of (i := 2) HZ3.out rfl
  have d3 := cell_of (i := 3) HZ3.out rfl
  have d4 := cell_of (i := 4) HZ3.out rfl
  have e0 := cell_of (i := 0) HT3.out rfl
  have e1 := cell_of (i := 1) HT3.out rfl
  have e2 := cell_of (i := 2) HT3.out rfl
  have e3 := cell_of (i := 3) HT3.out rfl
  have f0 : ∀ i, w3.frozen? ⟨w.heap.size, i, none⟩ = false := fun i => free_of HZ3.out
  have l0 : w.heap.size < w3.heap.size := lt_of_block HZ3.out
  have l1 : TB < w3.heap.size := lt_of_block HT3.out
  go_wp2_with fail
  refine (K33.out _).mono ?_
  intro w4 hE
  have HZ4 := Lib.hid ((hE.block _ (lt_of_block HZ3.out)).trans HZ3.out)
  have HT4 := Lib.hid ((hE.block _ (lt_of_block HT3.out)).trans HT3.out)
  have HE4 := Lib.hid (Ext.trans HE3.out hE)
  clear hE
  clear d0 d1 d2 d3 d4 e0 e1 e2 e3 f0 l0 l1
  have d0 := cell_of (i := 0) HZ4.out rfl
  have d1 := cell_of (i := 1) HZ4.out rfl
  have d2 := cell_of (i := 2) HZ4.out rfl
  have d3 := cell_of (i := 3) HZ4.out rfl
  have d4 := cell_of (i := 4) HZ4.out rfl
  have e0 := cell_of (i := 0) HT4.out rfl
  have e1 := cell_of (i := 1) HT4.out rfl
  have e2 := cell_of (i := 2) HT4.out rfl
  have e3 := cell_of (i := 3) HT4.out rfl
  have f0 : ∀ i, w4.frozen? ⟨w.heap.size, i, none⟩ = false := fun i => free_of HZ4.out
  have l0 : w.heap.size < w4.heap.size := lt_of_block HZ4.out
  have l1 : TB < w4.heap.size := lt_of_block HT4.out
  go_wp2_with fail
  refine (K40.out _).mono ?_
  intro w5 hE
  have HZ5 := Lib.hid ((hE.block _ (lt_of_block HZ4.out)).trans HZ4.out)
  have HT5 := Lib.hid ((hE.block _ (lt_of_block HT4.out)).trans HT4.out)
  have HE5 := Lib.hid (Ext.trans HE4.out hE)
  clear hE
  clear d0 d1 d2 d3 d4 e0 e1 e2 e3 f0 l0 l1
  have d0 := cell_of (i := 0) HZ5.out rfl
  have d1 := cell_of (i := 1) HZ5.out rfl
  have d2 := cell_of (i := 2) HZ5.out rfl
  have d3 := cell_of (i := 3) HZ5.out rfl
  have d4 := cell_of (i := 4) HZ5.out rfl
  have e0 := cell_of (i := 0) HT5.out rfl
  have e1 := cell_of (i := 1) HT5.out rfl
  have e2 := cell_of (i := 2) HT5.out rfl
  have e3 := cell_of (i := 3) HT5.out rfl
  have f0 : ∀ i, w5.frozen? ⟨w.heap.size, i, none⟩ = false := fun i => free_of HZ5.out
  have l0 : w.heap.size < w5.heap.size := lt_of_block HZ5.out
  have l1 : TB < w5.heap.size := lt_of_block HT5.out
  go_wp2_with fail
  refine (show Calls _ _ _ _ _ from KIH.out _ HE5.out).mono ?_
  rintro _ w6 ⟨hE, q, xc, rfl, hA⟩
  have HZ6 := Lib.hid ((hE.below.block _ (lt_of_block HZ5.out)).trans HZ5.out)
  have HT6 := Lib.hid ((hE.below.block _ (lt_of_block HT5.out)).trans HT5.out)
  have HE6 := Lib.hid (Ext.trans HE5.out hE)
  have HE56 := Lib.hid hE
  have HS := Lib.hid (show w.heap.size < w5.heap.size from lt_of_block HZ5.out)
  have HA := Lib.hid hA
  clear hE hA
  clear d0 d1 d2 d3 d4 e0 e1 e2 e3 f0 l0 l1
  obtain ⟨xk, xo, xn, xv, xs⟩ := x
  dsimp only [Ex.val, Ex.kind, Ex.op, Ex.name, Ex.value, Ex.args]
  obtain ⟨xm, hxm⟩ : ∃ m, xs.length = m := ⟨_, rfl⟩
  rw [hxm]
  have HXM := Lib.hid hxm
  clear hxm
  go_upto_region 17 with fail
  obtain ⟨w7, hw7⟩ : ∃ W, w6.alloc (.cells #[.int .i64 xk, .int .i64 xo, sV xn, .int .i64 xv, .slice q xm xc] 25) = W := ⟨_, rfl⟩
  have hE : Ext w6 w7 := by rw [← hw7]; exact ext_alloc _ _
  have HX7 := Lib.hid (show w7.heap[w6.heap.size]? = some (.cells #[.int .i64 xk, .int .i64 xo, sV xn, .int .i64 xv, .slice q xm xc] 25 (0, 0)) from by rw [← hw7]; exact alloc_here _ _)
  have HZ7 := Lib.hid ((hE.below.block _ (lt_of_block HZ6.out)).trans HZ6.out)
  have HT7 := Lib.hid ((hE.below.block _ (lt_of_block HT6.out)).trans HT6.out)
  have HE7 := Lib.hid (Ext.trans HE6.out hE)
  have HAM := Lib.hid (HA.out.ext hE)
  clear hE
  first | rw [hw7] | skip
  clear hw7
  generalize w6.heap.size = XB at *
  have d0 := cell_of (i := 0) HZ7.out rfl
  have d1 := cell_of (i := 1) HZ7.out rfl
  have d2 := cell_of (i := 2) HZ7.out rfl
  have d3 := cell_of (i := 3) HZ7.out rfl
  have d4 := cell_of (i := 4) HZ7.out rfl
  have e0 := cell_of (i := 0) HT7.out rfl
  have e1 := cell_of (i := 1) HT7.out rfl
  have e2 := cell_of (i := 2) HT7.out rfl
  have e3 := cell_of (i := 3) HT7.out rfl
  have f0 : ∀ i, w7.frozen? ⟨w.heap.size, i, none⟩ = false := fun i => free_of HZ7.out
  have l0 : w.heap.size < w7.heap.size := lt_of_block HZ7.out
  have l1 : TB < w7.heap.size := lt_of_block HT7.out
  go_wp2_with fail
  refine (KNJ.out _ HE7.out).mono ?_
  intro w8 hE
  have HZ8 := Lib.hid ((hE.block _ (lt_of_block HZ7.out)).trans HZ7.out)
  have HT8 := Lib.hid ((hE.block _ (lt_of_block HT7.out)).trans HT7.out)
  have HX8 := Lib.hid ((hE.block _ (lt_of_block HX7.out)).trans HX7.out)
  have HA8 := Lib.hid (HAM.out.ext hE)
  have HE8 := Lib.hid (Ext.trans HE7.out hE)
  clear hE
  clear d0 d1 d2 d3 d4 e0 e1 e2 e3 f0 l0 l1
  have d0 := cell_of (i := 0) HZ8.out rfl
  have d1 := cell_of (i := 1) HZ8.out rfl
  have d2 := cell_of (i := 2) HZ8.out rfl
  have d3 := cell_of (i := 3) HZ8.out rfl
  have d4 := cell_of (i := 4) HZ8.out rfl
  have e0 := cell_of (i := 0) HT8.out rfl
  have e1 := cell_of (i := 1) HT8.out rfl
  have e2 := cell_of (i := 2) HT8.out rfl
  have e3 := cell_of (i := 3) HT8.out rfl
  have f0 : ∀ i, w8.frozen? ⟨w.heap.size, i, none⟩ = false := fun i => free_of HZ8.out
  have l0 : w.heap.size < w8.heap.size := lt_of_block HZ8.out
  have l1 : TB < w8.heap.size := lt_of_block HT8.out
  go_wp2_with fail
  refine (K41.out _).mono ?_
  intro w9 hE
  have HZ9 := Lib.hid ((hE.block _ (lt_of_block HZ8.out)).trans HZ8.out)
  have HT9 := Lib.hid ((hE.block _ (lt_of_block HT8.out)).trans HT8.out)
  have HX9 := Lib.hid ((hE.block _ (lt_of_block HX8.out)).trans HX8.out)
  have HA9 := Lib.hid (HA8.out.ext hE)
  have HE9 := Lib.hid (Ext.trans HE8.out hE)
  clear hE
  clear d0 d1 d2 d3 d4 e0 e1 e2 e3 f0 l0 l1
  have d0 := cell_of (i := 0) HZ9.out rfl
  have d1 := cell_of (i := 1) HZ9.out rfl
  have d2 := cell_of (i := 2) HZ9.out rfl
  have d3 := cell_of (i := 3) HZ9.out rfl
  have d4 := cell_of (i := 4) HZ9.out rfl
  have e0 := cell_of (i := 0) HT9.out rfl
  have e1 := cell_of (i := 1) HT9.out rfl
  have e2 := cell_of (i := 2) HT9.out rfl
  have e3 := cell_of (i := 3) HT9.out rfl
  have f0 : ∀ i, w9.frozen? ⟨w.heap.size, i, none⟩ = false := fun i => free_of HZ9.out
  have l0 : w.heap.size < w9.heap.size := lt_of_block HZ9.out
  have l1 : TB < w9.heap.size := lt_of_block HT9.out
  have y0 := cell_of (i := 0) HX9.out rfl
  have y1 := cell_of (i := 1) HX9.out rfl
  have y2 := cell_of (i := 2) HX9.out rfl
  have y3 := cell_of (i := 3) HX9.out rfl
  have y4 := cell_of (i := 4) HX9.out rfl
  go_wp2
  obtain ⟨W', hW', h3, h4, h5⟩ := put5n HZ9.out rfl (.int .i64 xk) (.int .i64 xo) (sV xn) (.int .i64 xv) (.slice q xm xc)
  rw [hW']
  have g0 := cell_of (i := 0) h3 rfl
  have g1 := cell_of (i := 1) h3 rfl
  have g2 := cell_of (i := 2) h3 rfl
  have g3 := cell_of (i := 3) h3 rfl
  have g4 := cell_of (i := 4) h3 rfl
  exact bodyPost_ret (v := .tuple #[.agg #[.int .i64 xk, .int .i64 xo, sV xn, .int .i64 xv, .slice q xm xc], .int .i64 ((j : Int) + 1), .bool true]) (by simp [results, Tryz.f64, go_sem, g0, g1, g2, g3, g4]) rfl (by
    rw [HRT.out]
    exact ⟨Below.trans HE9.out (h4 _ (Nat.le_refl _)), q, xc, by rw [← HXM.out]; rfl, HA9.out.keep (fun b hb hl => ⟨by have := HS.out; show w.heap.size ≤ b; omega, h5 b (by have := HS.out; omega)⟩)⟩)
end Go.Proofs.YtmokejjndkibhaaGreatDoor

namespace Go.Proofs.YtmokejjndkibhaaGreatDoor
open Go.RowKit Go.Shelf Ex
set_option linter.unusedVariables false
set_option linter.unusedSimpArgs false

theorem rfOpd_step (l : List Tk) (p : Option Addr) (c k : Nat) (r : Res) (w : World) (hP : TkRow w p l) (hl : l.length ≤ 100000) (hk : k ≤ l.length) (hX : ∀ t ∈ l, t.text.length ≤ 140737488351232) (hR : Rd l .opd k r)
    (IHo : k < l.length → ∀ r', Rd l .opd (k + 1) r' → ∀ W, Ext w W → Calls Tryz.prog 64 #[.slice p l.length c, .int .i64 ((k : Int) + 1)] W (RfPost r' W))
    (IHb : k < l.length → ∀ r', Rd l (.bin 1) (k + 1) r' → ∀ W, Ext w W → Calls Tryz.prog 37 #[.slice p l.length c, .int .i64 ((k : Int) + 1), .int .i64 1] W (RfPost r' W)) :
    Calls Tryz.prog 64 #[.slice p l.length c, .int .i64 (k : Int)] w (RfPost r w) := by
  by_cases h2 : (l.getD k tk0).kind = 2
  · exact rfOpdNum l p c k r w hP hl hk hX hR h2
  · by_cases h1 : (l.getD k tk0).kind = 1
    · exact rfOpdNam l p c k r w hP hl hk hX hR h1
    · cases s45 : sgB l k [45] with
      | true =>
        obtain ⟨hlt, _⟩ := sgB_some s45
        obtain ⟨r', hr', e⟩ := hR.opd_neg s45
        cases r' with
        | ok x j => exact rfOpdNeg l p c k r w hP hl hk hX hR s45 x j (fun W hW => IHo hlt _ hr' W hW) e
        | bad j => exact rfOpdNegB l p c k r w hP hl hk hX hR s45 j (fun W hW => IHo hlt _ hr' W hW) e
      | false =>
        cases s33 : sgB l k [33] with
        | true =>
          obtain ⟨hlt, _⟩ := sgB_some s33
          obtain ⟨r', hr', e⟩ := hR.opd_no s33
          cases r' with
          | ok x j => exact rfOpdNo l p c k r w hP hl hk hX hR s33 x j (fun W hW => IHo hlt _ hr' W hW) e
          | bad j => exact rfOpdNoB l p c k r w hP hl hk hX hR s33 j (fun W hW => IHo hlt _ hr' W hW) e
        | false =>
          cases s40 : sgB l k [40] with
          | true =>
            obtain ⟨hlt, _⟩ := sgB_some s40
            obtain ⟨r', hr', e⟩ := hR.opd_par s40
            have hb := hr'.bound (by decide) (by omega)
            cases r' with
            | ok x j =>
              simp only [Res.end_] at hb
              cases s41 : sgB l j [41] with
              | true => exact rfOpdPar l p c k r w hP hl hk hX hR s40 x j hb.2.1 s41 (fun W hW => IHb hlt _ hr' W hW) (by rw [e]; exact if_pos s41)
              | false => exact rfOpdParN l p c k r w hP hl hk hX hR s40 x j hb.2.1 s41 (fun W hW => IHb hlt _ hr' W hW) (by rw [e]; exact if_neg (by rw [s41]; decide))
            | bad j => exact rfOpdParB l p c k r w hP hl hk hX hR s40 j (fun W hW => IHb hlt _ hr' W hW) e
          | false => exact rfOpdBad l p c k r w hP hl hk hX hR h2 h1 s45 s33 s40
end Go.Proofs.YtmokejjndkibhaaGreatDoor

namespace Go.Proofs.YtmokejjndkibhaaGreatDoor
open Go.RowKit Go.Shelf Ex
set_option linter.unusedVariables false
set_option linter.unusedSimpArgs false

set_option maxRecDepth 100000 in
set_option maxHeartbeats 4000000 in
theorem rfExpSixB (l : List Tk) (p : Option Addr) (c k : Nat) (w : World) (j : Nat) (hl : l.length ≤ 100000) (hk : k ≤ l.length)
    (IH : ∀ W, Ext w W → Calls Tryz.prog 64 #[.slice p l.length c, .int .i64 (k : Int)] W (RfPost (.bad j) W)) :
    Calls Tryz.prog 37 #[.slice p l.length c, .int .i64 (k : Int), .int .i64 6] w (RfPost (.bad j) w) := by
  have KIH := Lib.hid IH
  obtain ⟨r, hr⟩ : ∃ r, Res.bad j = r := ⟨_, rfl⟩
  have HR := Lib.hid hr
  rw [hr]
  clear IH hr
  go_enter Tryz.func37, Tryz.ntmps37
  go_wp2_with fail
  refine (show Calls _ _ _ _ _ from KIH.out _ (ext_alloc _ _)).mono ?_
  rintro _ w1 ⟨hE, rfl⟩
  obtain ⟨hz, hE1⟩ := kept_new hE
  have HZ1 := Lib.hid hz
  have HE1 := Lib.hid hE1
  clear hE hE1 hz
  dsimp only [Ex.val, exZ, Ex.kind, Ex.op, Ex.name, Ex.value, Ex.args, List.length_nil]
  have d0 := cell_of (i := 0) HZ1.out rfl
  have d1 := cell_of (i := 1) HZ1.out rfl
  have d2 := cell_of (i := 2) HZ1.out rfl
  have d3 := cell_of (i := 3) HZ1.out rfl
  have d4 := cell_of (i := 4) HZ1.out rfl
  have f0 : ∀ i, w1.frozen? ⟨w.heap.size, i, none⟩ = false := fun i => free_of HZ1.out
  go_wp2
  obtain ⟨W', hW', h3, h4, h5⟩ := put5n HZ1.out rfl (.int .i64 0) (.int .i64 0) (sV []) (.int .i64 0) (.slice none 0 0)
  rw [hW']
  have g0 := cell_of (i := 0) h3 rfl
  have g1 := cell_of (i := 1) h3 rfl
  have g2 := cell_of (i := 2) h3 rfl
  have g3 := cell_of (i := 3) h3 rfl
  have g4 := cell_of (i := 4) h3 rfl
  exact bodyPost_ret (v := .tuple #[.agg #[.int .i64 0, .int .i64 0, sV [], .int .i64 0, .slice none 0 0], .int .i64 (j : Int), .bool false]) (by simp [results, Tryz.f37, go_sem, g0, g1, g2, g3, g4]) rfl (by
    rw [← HR.out]
    exact ⟨Below.trans HE1.out (h4 _ (Nat.le_refl _)), rfl⟩)
set_option maxRecDepth 100000 in
set_option maxHeartbeats 4000000 in
theorem rfExpSix (l : List Tk) (p : Option Addr) (c k : Nat) (w : World) (x : Ex) (j : Nat) (hl : l.length ≤ 100000) (hk : k ≤ l.length)
    (IH : ∀ W, Ext w W → Calls Tryz.prog 64 #[.slice p l.length c, .int .i64 (k : Int)] W (RfPost (.ok x j) W)) :
    Calls Tryz.prog 37 #[.slice p l.length c, .int .i64 (k : Int), .int .i64 6] w (RfPost (.ok x j) w) := by
  have KIH := Lib.hid IH
  obtain ⟨r, hr⟩ : ∃ r, Res.ok x j = r := ⟨_, rfl⟩
  have HR := Lib.hid hr
  rw [hr]
  clear IH hr
  go_enter Tryz.func37, Tryz.ntmps37
  go_wp2_with fail
  refine (show Calls _ _ _ _ _ from KIH.out _ (ext_alloc _ _)).mono ?_
  rintro _ w1 ⟨hE, q, xc, rfl, hA⟩
  have HS := Lib.hid (show w.heap.size + 1 ≤ (w.alloc (.cells #[.int .i64 0, .int .i64 0, sV [], .int .i64 0, .slice none 0 0] 25)).heap.size from by rw [World.size_alloc]; exact Nat.le_refl _)
  obtain ⟨hz, hE1⟩ := kept_new hE
  have HZ1 := Lib.hid hz
  have HE1 := Lib.hid hE1
  have HA := Lib.hid (hA.imp (S' := (w.heap.size + 1 ≤ ·)) (fun b hb _ => by have h := hb; simp only [World.size_alloc] at h; exact h))
  clear hE hE1 hz hA
  obtain ⟨xk, xo, xn, xv, xs⟩ := x
  dsimp only [Ex.val, Ex.kind, Ex.op, Ex.name, Ex.value, Ex.args]
  obtain ⟨xm, hxm⟩ : ∃ m, xs.length = m := ⟨_, rfl⟩
  rw [hxm]
  have HXM := Lib.hid hxm
  clear hxm
  have d0 := cell_of (i := 0) HZ1.out rfl
  have d1 := cell_of (i := 1) HZ1.out rfl
  have d2 := cell_of (i := 2) HZ1.out rfl
  have d3 := cell_of (i := 3) HZ1.out rfl
  have d4 := cell_of (i := 4) HZ1.out rfl
  have f0 : ∀ i, w1.frozen? ⟨w.heap.size, i, none⟩ = false := fun i => free_of HZ1.out
  go_wp2
  obtain ⟨W', hW', h3, h4, h5⟩ := put5n HZ1.out rfl (.int .i64 xk) (.int .i64 xo) (sV xn) (.int .i64 xv) (.slice q xm xc)
  rw [hW']
  have g0 := cell_of (i := 0) h3 rfl
  have g1 := cell_of (i := 1) h3 rfl
  have g2 := cell_of (i := 2) h3 rfl
  have g3 := cell_of (i := 3) h3 rfl
  have g4 := cell_of (i := 4) h3 rfl
  exact bodyPost_ret (v := .tuple #[.agg #[.int .i64 xk, .int .i64 xo, sV xn, .int .i64 xv, .slice q xm xc], .int .i64 (j : Int), .bool true]) (by simp [results, Tryz.f37, go_sem, g0, g1, g2, g3, g4]) rfl (by
    rw [← HR.out]
    exact ⟨Below.trans HE1.out (h4 _ (Nat.le_refl _)), q, xc, by rw [← HXM.out]; rfl, HA.out.keep (fun b hb hl => ⟨by show w.heap.size ≤ b; omega, h5 b (by omega)⟩)⟩)
end Go.Proofs.YtmokejjndkibhaaGreatDoor

namespace Go.Proofs.YtmokejjndkibhaaGreatDoor
open Go.RowKit Go.Shelf Ex
set_option linter.unusedVariables false
set_option linter.unusedSimpArgs false

set_option maxRecDepth 100000 in
set_option maxHeartbeats 4000000 in
theorem rfExpSubB (l : List Tk) (p : Option Addr) (c k m : Nat) (w : World) (j : Nat) (hm1 : 1 ≤ m) (hm : m ≤ 5) (hl : l.length ≤ 100000) (hk : k ≤ l.length)
    (IH : ∀ W, Ext w W → Calls Tryz.prog 37 #[.slice p l.length c, .int .i64 (k : Int), .int .i64 ((m : Int) + 1)] W (RfPost (.bad j) W)) :
    Calls Tryz.prog 37 #[.slice p l.length c, .int .i64 (k : Int), .int .i64 (m : Int)] w (RfPost (.bad j) w) := by
  have KIH := Lib.hid IH
  have hm6 : ((m : Int) == 6) = false := by simpa using (show ¬ (m : Int) = 6 by omega)
  obtain ⟨r, hr⟩ : ∃ r, Res.bad j = r := ⟨_, rfl⟩
  have HR := Lib.hid hr
  rw [hr]
  clear IH hr
  go_enter Tryz.func37, Tryz.ntmps37
  go_wp2_with fail
  refine (show Calls _ _ _ _ _ from KIH.out _ (ext_alloc _ _)).mono ?_
  rintro _ w1 ⟨hE, rfl⟩
  obtain ⟨hz, hE1⟩ := kept_new hE
  have HZ1 := Lib.hid hz
  have HE1 := Lib.hid hE1
  clear hE hE1 hz
  dsimp only [Ex.val, exZ, Ex.kind, Ex.op, Ex.name, Ex.value, Ex.args, List.length_nil]
  go_upto_region 4 with fail
  obtain ⟨w2, hw2⟩ : ∃ W, w1.alloc (.cells #[.int .i64 0, .int .i64 0, sV [], .int .i64 0, .slice none 0 0] 25) = W := ⟨_, rfl⟩
  have hE2 : Ext w1 w2 := by rw [← hw2]; exact ext_alloc _ _
  have HZ2 := Lib.hid ((hE2.below.block _ (lt_of_block HZ1.out)).trans HZ1.out)
  have HE2 := Lib.hid (Ext.trans HE1.out hE2)
  first | rw [hw2] | (simp only [sV_nil] at hw2 ⊢; rw [hw2])
  clear hw2 hE2
  have d0 := cell_of (i := 0) HZ2.out rfl
  have d1 := cell_of (i := 1) HZ2.out rfl
  have d2 := cell_of (i := 2) HZ2.out rfl
  have d3 := cell_of (i := 3) HZ2.out rfl
  have d4 := cell_of (i := 4) HZ2.out rfl
  have f0 : ∀ i, w2.frozen? ⟨w.heap.size, i, none⟩ = false := fun i => free_of HZ2.out
  go_wp2
  obtain ⟨W', hW', h3, h4, h5⟩ := put5n HZ2.out rfl (.int .i64 0) (.int .i64 0) (.string { data := #[] }) (.int .i64 0) (.slice none 0 0)
  rw [hW']
  have g0 := cell_of (i := 0) h3 rfl
  have g1 := cell_of (i := 1) h3 rfl
  have g2 := cell_of (i := 2) h3 rfl
  have g3 := cell_of (i := 3) h3 rfl
  have g4 := cell_of (i := 4) h3 rfl
  exact bodyPost_ret (v := .tuple #[.agg #[.int .i64 0, .int .i64 0, .string { data := #[] }, .int .i64 0, .slice none 0 0], .int .i64 (j : Int), .bool false]) (by simp [results, Tryz.f37, go_sem, g0, g1, g2, g3, g4]) rfl (by
    rw [← HR.out]
    exact ⟨Below.trans HE2.out (h4 _ (Nat.le_refl _)), rfl⟩)
end Go.Proofs.YtmokejjndkibhaaGreatDoor

namespace Go.Proofs.YtmokejjndkibhaaGreatDoor
open Go.RowKit Go.Shelf Ex
set_option linter.unusedVariables false
set_option linter.unusedSimpArgs false

theorem opAt_op (l : List Tk) (k : Nat) : 0 ≤ (opAt l k).1 ∧ (opAt l k).1 ≤ 100 := by
  rw [opAt_getD]
  unfold opT
  split
  · exact lxF_op _
  · exact ⟨by decide, by decide⟩

set_option maxRecDepth 100000 in
set_option maxHeartbeats 8000000 in
theorem rfExpSub (l : List Tk) (p : Option Addr) (c k m : Nat) (r : Res) (w : World) (hP : TkRow w p l) (x0 : Ex) (j0 : Nat) (hm1 : 1 ≤ m) (hm : m ≤ 5) (hl : l.length ≤ 100000) (hk : k ≤ j0) (hj0 : j0 ≤ l.length) (hR : Rd l (.loop m x0) j0 r)
    (IH : ∀ W, Ext w W → Calls Tryz.prog 37 #[.slice p l.length c, .int .i64 (k : Int), .int .i64 ((m : Int) + 1)] W (RfPost (.ok x0 j0) W))
    (IHl : ∀ j, k ≤ j → j < l.length → ∀ r', Rd l (.bin (m + 1)) (j + 1) r' → ∀ W, Ext w W → Calls Tryz.prog 37 #[.slice p l.length c, .int .i64 ((j : Int) + 1), .int .i64 ((m : Int) + 1)] W (RfPost r' W)) :
    Calls Tryz.prog 37 #[.slice p l.length c, .int .i64 (k : Int), .int .i64 (m : Int)] w (RfPost r w) := by
  have KIH := Lib.hid IH
  have KL := Lib.hid IHl
  have HR := Lib.hid hR
  have KNX := Lib.hid (fun (j : Nat) (hj : j ≤ l.length) W (hW : Ext w W) => rfNext_any l p c j W (hP.ext hW) (by omega) (by omega))
  have KOP := Lib.hid (fun (j : Nat) W => (by have := rfOperator_any (l.getD j tk0) W; rw [← opAt_getD] at this; exact this : Gives Tryz.prog 65 #[TV (l.getD j tk0)] W (.tuple #[.int .i64 (opAt l j).1, .int .i64 (opAt l j).2])))
  have hm6 : ((m : Int) == 6) = false := by simpa using (show ¬ (m : Int) = 6 by omega)
  clear IH IHl hR hP
  go_enter Tryz.func37, Tryz.ntmps37
  go_wp2_with fail
  refine (show Calls _ _ _ _ _ from KIH.out _ (ext_alloc _ _)).mono ?_
  rintro _ w1 ⟨hE, q, xc, rfl, hA⟩
  obtain ⟨hz, hE1⟩ := kept_new hE
  have HZ1 := Lib.hid hz
  have HE1 := Lib.hid hE1
  have HA := Lib.hid (hA.imp (S' := (w.heap.size + 1 ≤ ·)) (fun b hb _ => by have h := hb; simp only [World.size_alloc] at h; exact h))
  clear hE hE1 hz hA
  have HS1 := Lib.hid (lt_of_block HZ1.out)
  have HAB := Lib.hid (HA.out.imp (S' := fun b => w.heap.size < b ∧ b ≠ w1.heap.size) (fun b hb hl => ⟨by omega, by omega⟩))
  have HVAL := Lib.hid (show ∀ (x : Ex) q xc, x.val q xc = .agg #[.int .i64 x.kind, .int .i64 x.op, sV x.name, .int .i64 x.value, .slice q x.args.length xc] from fun x q xc => rfl)
  rw [HVAL.out]
  generalize hxk : x0.kind = xk
  generalize hxo : x0.op = xo
  generalize hxn : x0.name = xn
  generalize hxv : x0.value = xv
  generalize hxm : x0.args.length = xm
  have HXV := Lib.hid (And.intro hxk (And.intro hxo (And.intro hxn (And.intro hxv hxm))))
  clear hxk hxo hxn hxv hxm
  go_upto_region 4 with fail
  obtain ⟨w2, hw2⟩ : ∃ W, w1.alloc (.cells #[.int .i64 xk, .int .i64 xo, sV xn, .int .i64 xv, .slice q xm xc] 25) = W := ⟨_, rfl⟩
  have hE2 : Ext w1 w2 := by rw [← hw2]; exact ext_alloc _ _
  have hX2 : w2.heap[w1.heap.size]? = some (.cells #[.int .i64 xk, .int .i64 xo, sV xn, .int .i64 xv, .slice q xm xc] 25 (0, 0)) := by rw [← hw2]; exact alloc_here _ _
  have HZ2 := Lib.hid ((hE2.below.block _ (lt_of_block HZ1.out)).trans HZ1.out)
  have HE2 := Lib.hid (Ext.trans HE1.out hE2)
  have HA2 := Lib.hid (HAB.out.ext hE2)
  have HX2 := Lib.hid hX2
  rw [hw2]
  clear hw2 hE2 hX2
  have HBX := Lib.hid HS1.out
  obtain ⟨XB, hXB⟩ : ∃ b, w1.heap.size = b := ⟨_, rfl⟩
  rw [hXB] at HX2 HA2 HBX ⊢
  clear hXB
  go_wp2
  go_loopw [10] (fun v wr => ∃ (j : Nat) (x : Ex) (q : Option Addr) (xc : Nat), v = .int .i64 (j : Int) ∧ k ≤ j ∧ j ≤ l.length ∧ Rd l (.loop m x) j r ∧ wr.heap[w.heap.size]? = some (.cells #[.int .i64 0, .int .i64 0, .string { data := #[] }, .int .i64 0, .slice none 0 0] 25 (0, 0)) ∧ wr.heap[XB]? = some (.cells #[.int .i64 x.kind, .int .i64 x.op, sV x.name, .int .i64 x.value, .slice q x.args.length xc] 25 (0, 0)) ∧ AtB (fun b => w.heap.size < b ∧ b ≠ XB) wr q x ∧ Ext w wr) (fun v _ => l.length - (intOf v).toNat)
  case atStart => exact ⟨j0, x0, q, xc, rfl, hk, hj0, HR.out, HZ2.out, (by obtain ⟨e1, e2, e3, e4, e5⟩ := HXV.out; rw [e1, e2, e3, e4, e5]; exact HX2.out), HA2.out, HE2.out⟩
  case round =>
    obtain ⟨j, x, q1, xc1, rfl, hkj, hjl, hRj, hz, hx, hA, hE⟩ := hrel
    have HZ3 := Lib.hid hz
    have HX3 := Lib.hid hx
    have HA3 := Lib.hid hA
    have HE3 := Lib.hid hE
    clear hz hx hA hE
    have KN1 := Lib.hid (fun W hW => KNX.out j hjl W hW)
    have KO1 := Lib.hid (fun W => KOP.out j W)
    obtain ⟨T, hT⟩ : ∃ T, l.getD j tk0 = T := ⟨_, rfl⟩
    rw [hT] at KN1 KO1
    clear hT
    obtain ⟨tk, tx, tv, tp⟩ := T
    dsimp only [TV] at KN1 KO1
    by_cases ho : (opAt l j).2 = (m : Int)
    · have hjlt : j < l.length := opAt_lt ho hm1
      obtain ⟨r', hr', hcase⟩ := hRj.loopOp ho
      have KI := Lib.hid (fun W (hW : Ext w W) => KL.out j hkj hjlt r' hr' W hW)
      have HOP := Lib.hid (opAt_op l j)
      have HBD := Lib.hid (hr'.bound (show 1 ≤ m + 1 by omega) (by omega))
      rw [ho] at KO1
      clear hRj ho hr'
      generalize (opAt l j).1 = o1 at *
      cases r' with
      | bad j' =>
        have hr : r = .bad j' := by
          rcases hcase with ⟨j2, e1, e2⟩ | ⟨f, j2, e1, _⟩
          · cases e1; exact e2
          · cases e1
        have HRT := Lib.hid hr
        clear hcase hr
        go_wp2_with fail
        refine (KN1.out _ HE3.out).mono ?_
        intro w4 hE
        have HE4 := Lib.hid (Ext.trans HE3.out hE)
        have HE34 := Lib.hid hE
        clear hE
        go_wp2_with fail
        refine (KO1.out _).mono ?_
        intro w5 hE
        have HE35 := Lib.hid (Ext.trans HE34.out hE)
        have HE5 := Lib.hid (Ext.trans HE4.out hE)
        have HZ5 := Lib.hid ((HE35.out.below.block _ (lt_of_block HZ3.out)).trans HZ3.out)
        have HX5 := Lib.hid ((HE35.out.below.block _ (lt_of_block HX3.out)).trans HX3.out)
        have HA5 := Lib.hid (HA3.out.ext HE35.out)
        clear hE
        go_wp2_with fail
        refine (show Calls _ _ _ _ _ from KI.out _ HE5.out).mono ?_
        rintro _ w6 ⟨hE, rfl⟩
        have HZ6 := Lib.hid ((hE.below.block _ (lt_of_block HZ5.out)).trans HZ5.out)
        have HE6 := Lib.hid (Ext.trans HE5.out hE)
        clear hE
        dsimp only [Ex.val, exZ, Ex.kind, Ex.op, Ex.name, Ex.value, Ex.args, List.length_nil]
        go_upto_region 10 with fail
        obtain ⟨w7, hw7⟩ : ∃ W, w6.alloc (.cells #[.int .i64 0, .int .i64 0, sV [], .int .i64 0, .slice none 0 0] 25) = W := ⟨_, rfl⟩
        have hE2 : Ext w6 w7 := by rw [← hw7]; exact ext_alloc _ _
        have HZ7 := Lib.hid ((hE2.below.block _ (lt_of_block HZ6.out)).trans HZ6.out)
        have HE7 := Lib.hid (Ext.trans HE6.out hE2)
        first | rw [hw7] | (simp only [sV_nil] at hw7 ⊢; rw [hw7])
        clear hw7 hE2
        have d0 := cell_of (i := 0) HZ7.out rfl
        have d1 := cell_of (i := 1) HZ7.out rfl
        have d2 := cell_of (i := 2) HZ7.out rfl
        have d3 := cell_of (i := 3) HZ7.out rfl
        have d4 := cell_of (i := 4) HZ7.out rfl
        have f0 : ∀ i, w7.frozen? ⟨w.heap.size, i, none⟩ = false := fun i => free_of HZ7.out
        go_wp2
        obtain ⟨W', hW', h3, h4, h5⟩ := put5n HZ7.out rfl (.int .i64 0) (.int .i64 0) (.string { data := #[] }) (.int .i64 0) (.slice none 0 0)
        rw [hW']
        have g0 := cell_of (i := 0) h3 rfl
        have g1 := cell_of (i := 1) h3 rfl
        have g2 := cell_of (i := 2) h3 rfl
        have g3 := cell_of (i := 3) h3 rfl
        have g4 := cell_of (i := 4) h3 rfl
        exact bodyPost_ret (v := .tuple #[.agg #[.int .i64 0, .int .i64 0, .string { data := #[] }, .int .i64 0, .slice none 0 0], .int .i64 (j' : Int), .bool false]) (by simp [results, Tryz.f37, go_sem, g0, g1, g2, g3, g4]) rfl (by
          rw [HRT.out]
          exact ⟨Below.trans HE7.out (h4 _ (Nat.le_refl _)), rfl⟩)
      | ok f j' =>
        have hr : (m = 3 ∧ r = .ok (binX o1 x f) j') ∨ (m ≠ 3 ∧ Rd l (.loop m (binX o1 x f)) j' r) := by
          rcases hcase with ⟨j2, e1, e2⟩ | ⟨f2, j2, e1, e2⟩
          · cases e1
          · cases e1; exact e2
        have HRT := Lib.hid hr
        clear hcase hr
        obtain ⟨hb1, hb2, -⟩ := HBD.out
        simp only [Res.end_] at hb1 hb2
        go_wp2_with fail
        refine (KN1.out _ HE3.out).mono ?_
        intro w4 hE
        have HE4 := Lib.hid (Ext.trans HE3.out hE)
        have HE34 := Lib.hid hE
        clear hE
        go_wp2_with fail
        refine (KO1.out _).mono ?_
        intro w5 hE
        have HE35 := Lib.hid (Ext.trans HE34.out hE)
        have HE5 := Lib.hid (Ext.trans HE4.out hE)
        have HZ5 := Lib.hid ((HE35.out.below.block _ (lt_of_block HZ3.out)).trans HZ3.out)
        have HX5 := Lib.hid ((HE35.out.below.block _ (lt_of_block HX3.out)).trans HX3.out)
        have HA5 := Lib.hid (HA3.out.ext HE35.out)
        clear hE
        go_wp2_with fail
        refine (show Calls _ _ _ _ _ from KI.out _ HE5.out).mono ?_
        rintro _ w6 ⟨hE, q2, xc2, rfl, hA⟩
        have HZ6 := Lib.hid ((hE.below.block _ (lt_of_block HZ5.out)).trans HZ5.out)
        have HX6 := Lib.hid ((hE.below.block _ (lt_of_block HX5.out)).trans HX5.out)
        have HE6 := Lib.hid (Ext.trans HE5.out hE)
        have HA6 := Lib.hid (HA5.out.ext hE)
        have HL5 := Lib.hid (And.intro (lt_of_block HZ5.out) (lt_of_block HX5.out))
        have HAF := Lib.hid (hA.imp (S' := fun b => w.heap.size < b ∧ b ≠ XB) (fun b hb _ => by have := HL5.out; have hb2 : w5.heap.size ≤ b := hb; exact ⟨by omega, by omega⟩))
        clear hE hA
        rw [HVAL.out]
        obtain ⟨fk, hfk⟩ : ∃ v, f.kind = v := ⟨_, rfl⟩
        obtain ⟨fo, hfo⟩ : ∃ v, f.op = v := ⟨_, rfl⟩
        obtain ⟨fn, hfn⟩ : ∃ v, f.name = v := ⟨_, rfl⟩
        obtain ⟨fv, hfv⟩ : ∃ v, f.value = v := ⟨_, rfl⟩
        obtain ⟨fm, hfm⟩ : ∃ v, f.args.length = v := ⟨_, rfl⟩
        rw [hfk, hfo, hfn, hfv, hfm]
        have HFV := Lib.hid (And.intro hfk (And.intro hfo (And.intro hfn (And.intro hfv hfm))))
        clear hfk hfo hfn hfv hfm
        go_upto_region 10 with fail
        obtain ⟨w7, hw7⟩ : ∃ W, w6.alloc (.cells #[.int .i64 fk, .int .i64 fo, sV fn, .int .i64 fv, .slice q2 fm xc2] 25) = W := ⟨_, rfl⟩
        have hE2 : Ext w6 w7 := by rw [← hw7]; exact ext_alloc _ _
        have hF7 : w7.heap[w6.heap.size]? = some (.cells #[.int .i64 fk, .int .i64 fo, sV fn, .int .i64 fv, .slice q2 fm xc2] 25 (0, 0)) := by rw [← hw7]; exact alloc_here _ _
        have HZ7 := Lib.hid ((hE2.below.block _ (lt_of_block HZ6.out)).trans HZ6.out)
        have HX7 := Lib.hid ((hE2.below.block _ (lt_of_block HX6.out)).trans HX6.out)
        have HA7 := Lib.hid (HA6.out.ext hE2)
        have HB7 := Lib.hid (HAF.out.ext hE2)
        have HE7 := Lib.hid (Ext.trans HE6.out hE2)
        have HF7 := Lib.hid hF7
        have HL6 := Lib.hid (show XB < w6.heap.size from lt_of_block HX6.out)
        rw [hw7]
        clear hw7 hE2 hF7
        obtain ⟨FB, hFB⟩ : ∃ b, w6.heap.size = b := ⟨_, rfl⟩
        rw [hFB] at HF7 HL6 ⊢
        clear hFB
        have y0 := cell_of (i := 0) HX7.out rfl
        have y1 := cell_of (i := 1) HX7.out rfl
        have y2 := cell_of (i := 2) HX7.out rfl
        have y3 := cell_of (i := 3) HX7.out rfl
        have y4 := cell_of (i := 4) HX7.out rfl
        have k0 : ∀ i, w7.frozen? ⟨XB, i, none⟩ = false := fun i => free_of HX7.out
        have z0 := cell_of (i := 0) HF7.out rfl
        have z1 := cell_of (i := 1) HF7.out rfl
        have z2 := cell_of (i := 2) HF7.out rfl
        have z3 := cell_of (i := 3) HF7.out rfl
        have z4 := cell_of (i := 4) HF7.out rfl
        have l0 : XB < w7.heap.size := lt_of_block HX7.out
        have l1 : FB < w7.heap.size := lt_of_block HF7.out
        go_upto_region 13 with fail
        obtain ⟨W', hW', h3, h4, h5⟩ := put5n HX7.out rfl (.int .i64 4) (.int .i64 o1) (.string { data := #[] }) (.int .i64 0) (.slice (some ⟨w7.heap.size, 0, none⟩) 2 2)
        rw [hW']
        have hsz9 : W'.heap.size = w7.heap.size := by rw [← hW']; simp
        obtain ⟨w9, hw9⟩ : ∃ W, W'.alloc (.cells #[.int .i64 x.kind, .int .i64 x.op, sV x.name, .int .i64 x.value, .slice q1 x.args.length xc1, .int .i64 fk, .int .i64 fo, sV fn, .int .i64 fv, .slice q2 fm xc2] 25) = W := ⟨_, rfl⟩
        have hE9 : Ext W' w9 := by rw [← hw9]; exact ext_alloc _ _
        have hb9 : w9.heap[w7.heap.size]? = some (.cells #[.int .i64 x.kind, .int .i64 x.op, sV x.name, .int .i64 x.value, .slice q1 x.args.length xc1, .int .i64 fk, .int .i64 fo, sV fn, .int .i64 fv, .slice q2 fm xc2] 25 (0, 0)) := by rw [← hw9, ← hsz9]; exact alloc_here _ _
        have hlz : w.heap.size < w7.heap.size := lt_of_block HZ7.out
        have HX9 := Lib.hid ((hE9.below.block _ (lt_of_block h3)).trans h3)
        have HZ9 := Lib.hid (((hE9.below.block _ (by omega)).trans (h5 _ (by have := HBX.out; omega))).trans HZ7.out)
        have HE9 := Lib.hid (show Ext w w9 from Below.trans (Below.trans HE7.out (h4 _ (Nat.le_of_lt HBX.out))) (hE9.below.mono (by omega)))
        have HA9 := Lib.hid (show AtB (fun b => w.heap.size < b ∧ b ≠ XB) w9 (some ⟨w7.heap.size, 0, none⟩) (binX o1 x f) from
          at_bin HOP.out.1 HOP.out.2 (hb9.trans (by obtain ⟨e1, e2, e3, e4, e5⟩ := HFV.out; rw [e1, e2, e3, e4, e5])) ⟨hlz, by omega⟩
            ((HA7.out.keep (fun b hb hl => ⟨hb, h5 b hb.2⟩)).ext hE9) ((HB7.out.keep (fun b hb hl => ⟨hb, h5 b hb.2⟩)).ext hE9))
        rw [hw9]
        clear hw9 hE9 hb9 hW' h3 h4 h5 hsz9 y0 y1 y2 y3 y4 k0 z0 z1 z2 z3 z4 l0 l1
        obtain ⟨GB, hGB⟩ : ∃ b, w7.heap.size = b := ⟨_, rfl⟩
        rw [hGB] at HX9 HA9 hlz ⊢
        clear hGB
        have d0 := cell_of (i := 0) HZ9.out rfl
        have d1 := cell_of (i := 1) HZ9.out rfl
        have d2 := cell_of (i := 2) HZ9.out rfl
        have d3 := cell_of (i := 3) HZ9.out rfl
        have d4 := cell_of (i := 4) HZ9.out rfl
        have f0 : ∀ i, w9.frozen? ⟨w.heap.size, i, none⟩ = false := fun i => free_of HZ9.out
        have y0 := cell_of (i := 0) HX9.out rfl
        have y1 := cell_of (i := 1) HX9.out rfl
        have y2 := cell_of (i := 2) HX9.out rfl
        have y3 := cell_of (i := 3) HX9.out rfl
        have y4 := cell_of (i := 4) HX9.out rfl
        rcases HRT.out with ⟨hm3, hr⟩ | ⟨hm3, hr⟩
        · have e3 : ((m : Int) == 3) = true := by simpa using (show (m : Int) = 3 by omega)
          have HR3 := Lib.hid hr
          clear hm3 hr
          go_wp2
          obtain ⟨W', hW', h3, h4, h5⟩ := put5n HZ9.out rfl (.int .i64 4) (.int .i64 o1) (.string { data := #[] }) (.int .i64 0) (.slice (some ⟨GB, 0, none⟩) 2 2)
          rw [hW']
          have g0 := cell_of (i := 0) h3 rfl
          have g1 := cell_of (i := 1) h3 rfl
          have g2 := cell_of (i := 2) h3 rfl
          have g3 := cell_of (i := 3) h3 rfl
          have g4 := cell_of (i := 4) h3 rfl
          exact bodyPost_ret (v := .tuple #[.agg #[.int .i64 4, .int .i64 o1, .string { data := #[] }, .int .i64 0, .slice (some ⟨GB, 0, none⟩) 2 2], .int .i64 (j' : Int), .bool true]) (by simp [results, Tryz.f37, go_sem, g0, g1, g2, g3, g4]) rfl (by
            rw [HR3.out]
            exact ⟨Below.trans HE9.out (h4 _ (Nat.le_refl _)), some ⟨GB, 0, none⟩, 2, rfl, HA9.out.keep (fun b hb hl => ⟨Nat.le_of_lt hb.1, h5 b (by have := hb.1; omega)⟩)⟩)
        · have e3 : ((m : Int) == 3) = false := by simpa using (show ¬ (m : Int) = 3 by omega)
          have HR3 := Lib.hid hr
          clear hm3 hr d0 d1 d2 d3 d4 y0 y1 y2 y3 y4
          go_wp2
          go_roundw
          case rel => exact ⟨j', binX o1 x f, some ⟨GB, 0, none⟩, 2, rfl, by omega, hb2, HR3.out, HZ9.out, HX9.out, HA9.out, HE9.out⟩
          case measure => simp [intOf]; omega
    · have HRT := Lib.hid (hRj.loopFin ho)
      have hne : ((opAt l j).2 != (m : Int)) = true := by simpa using ho
      clear hRj ho
      generalize (opAt l j).1 = o1 at *
      generalize (opAt l j).2 = o2 at *
      go_wp2_with fail
      refine (KN1.out _ HE3.out).mono ?_
      intro w4 hE
      have HE4 := Lib.hid (Ext.trans HE3.out hE)
      have HE34 := Lib.hid hE
      clear hE
      go_wp2_with fail
      refine (KO1.out _).mono ?_
      intro w5 hE
      have HE35 := Lib.hid (Ext.trans HE34.out hE)
      have HE5 := Lib.hid (Ext.trans HE4.out hE)
      have HZ5 := Lib.hid ((HE35.out.below.block _ (lt_of_block HZ3.out)).trans HZ3.out)
      have HX5 := Lib.hid ((HE35.out.below.block _ (lt_of_block HX3.out)).trans HX3.out)
      have HA5 := Lib.hid (HA3.out.ext HE35.out)
      clear hE
      have d0 := cell_of (i := 0) HZ5.out rfl
      have d1 := cell_of (i := 1) HZ5.out rfl
      have d2 := cell_of (i := 2) HZ5.out rfl
      have d3 := cell_of (i := 3) HZ5.out rfl
      have d4 := cell_of (i := 4) HZ5.out rfl
      have f0 : ∀ i, w5.frozen? ⟨w.heap.size, i, none⟩ = false := fun i => free_of HZ5.out
      have y0 := cell_of (i := 0) HX5.out rfl
      have y1 := cell_of (i := 1) HX5.out rfl
      have y2 := cell_of (i := 2) HX5.out rfl
      have y3 := cell_of (i := 3) HX5.out rfl
      have y4 := cell_of (i := 4) HX5.out rfl
      go_wp2
      obtain ⟨W', hW', h3, h4, h5⟩ := put5n HZ5.out rfl (.int .i64 x.kind) (.int .i64 x.op) (sV x.name) (.int .i64 x.value) (.slice q1 x.args.length xc1)
      rw [hW']
      have g0 := cell_of (i := 0) h3 rfl
      have g1 := cell_of (i := 1) h3 rfl
      have g2 := cell_of (i := 2) h3 rfl
      have g3 := cell_of (i := 3) h3 rfl
      have g4 := cell_of (i := 4) h3 rfl
      exact bodyPost_ret (v := .tuple #[.agg #[.int .i64 x.kind, .int .i64 x.op, sV x.name, .int .i64 x.value, .slice q1 x.args.length xc1], .int .i64 (j : Int), .bool true]) (by simp [results, Tryz.f37, go_sem, g0, g1, g2, g3, g4]) rfl (by
        rw [HRT.out]
        exact ⟨Below.trans HE5.out (h4 _ (Nat.le_refl _)), q1, xc1, rfl, HA5.out.keep (fun b hb hl => ⟨Nat.le_of_lt hb.1, h5 b (by have := hb.1; omega)⟩)⟩)
end Go.Proofs.YtmokejjndkibhaaGreatDoor

namespace Go.Proofs.YtmokejjndkibhaaGreatDoor
open Go.RowKit Go.Shelf Ex
set_option linter.unusedVariables false
set_option linter.unusedSimpArgs false

def RfO (w0 : World) (p : Option Addr) (c : Nat) (l : List Tk) (k : Nat) : Prop := ∀ w r, Ext w0 w → Rd l .opd k r →
  Calls Tryz.prog 64 #[.slice p l.length c, .int .i64 (k : Int)] w (RfPost r w)
def RfB (w0 : World) (p : Option Addr) (c : Nat) (l : List Tk) (P k : Nat) : Prop := ∀ w r, Ext w0 w → Rd l (.bin P) k r →
  Calls Tryz.prog 37 #[.slice p l.length c, .int .i64 (k : Int), .int .i64 (P : Int)] w (RfPost r w)
theorem rfSix_step {w0 : World} {p : Option Addr} {c : Nat} {l : List Tk} (hl : l.length ≤ 100000) (k : Nat) (hk : k ≤ l.length) (I : RfO w0 p c l k) : RfB w0 p c l 6 k := by
  intro w r hE hR
  have h := hR.binSix
  cases r with
  | ok x j => exact rfExpSix l p c k w x j hl hk (fun W hW => I W _ (Ext.trans hE hW) h)
  | bad j => exact rfExpSixB l p c k w j hl hk (fun W hW => I W _ (Ext.trans hE hW) h)
theorem rfBin_step {w0 : World} {p : Option Addr} {c : Nat} {l : List Tk} (hP : TkRow w0 p l) (hl : l.length ≤ 100000) (P : Nat) (h5 : P ≤ 5) (h1 : 1 ≤ P) (k : Nat) (hk : k ≤ l.length) (I1 : RfB w0 p c l (P + 1) k) (IS : ∀ j, k < j → j ≤ l.length → RfB w0 p c l (P + 1) j) : RfB w0 p c l P k := by
  intro w r hE hR
  obtain ⟨r', hr', h⟩ := hR.binNext h5
  rcases h with ⟨j, rfl, rfl⟩ | ⟨e, j, rfl, hL⟩
  · exact rfExpSubB l p c k P w j h1 h5 hl hk (fun W hW => I1 W _ (Ext.trans hE hW) hr')
  · have hb := hr'.bound (by show 1 ≤ P + 1; omega) hk
    simp only [Res.end_] at hb
    exact rfExpSub l p c k P r w (hP.ext hE) e j h1 h5 hl hb.1 hb.2.1 hL (fun W hW => I1 W _ (Ext.trans hE hW) hr')
      (fun j hkj hj r' hr' W hW => IS (j + 1) (by omega) (by omega) W r' (Ext.trans hE hW) hr')
theorem rfRead_all {w0 : World} {p : Option Addr} {c : Nat} {l : List Tk} (hP : TkRow w0 p l) (hl : l.length ≤ 100000) (hX : ∀ t ∈ l, t.text.length ≤ 140737488351232) : ∀ (m k : Nat), k ≤ l.length → l.length - k ≤ m → RfO w0 p c l k ∧ ∀ P, 1 ≤ P → P ≤ 6 → RfB w0 p c l P k := by
  intro m
  induction m using Nat.strongRecOn with
  | _ m ih =>
    intro k hk hm
    have next : ∀ j, k < j → j ≤ l.length → RfO w0 p c l j ∧ ∀ P, 1 ≤ P → P ≤ 6 → RfB w0 p c l P j := fun j hj hj2 => ih (l.length - j) (by omega) j hj2 (Nat.le_refl _)
    have ho : RfO w0 p c l k := fun w r hE hR => rfOpd_step l p c k r w (hP.ext hE) hl hk hX hR
      (fun hlt r' hr' W hW => (next (k + 1) (by omega) (by omega)).1 W r' (Ext.trans hE hW) hr')
      (fun hlt r' hr' W hW => (next (k + 1) (by omega) (by omega)).2 1 (by omega) (by omega) W r' (Ext.trans hE hW) hr')
    have hb : ∀ n P, P + n = 6 → 1 ≤ P → RfB w0 p c l P k := by
      intro n
      induction n with
      | zero =>
        intro P hP6 _
        obtain rfl : P = 6 := by omega
        exact rfSix_step hl k hk ho
      | succ n ihn => intro P hP6 h1; exact rfBin_step hP hl P (by omega) h1 k hk (ihn (P + 1) (by omega) (by omega)) (fun j hj hj2 => (next j hj hj2).2 (P + 1) (by omega) (by omega))
    exact ⟨ho, fun P h1 h6 => hb (6 - P) P (by omega) h1⟩
theorem rfRead_any (l : List Tk) (p : Option Addr) (c : Nat) (w : World) (hP : TkRow w p l) (hl : l.length ≤ 100000) (hX : ∀ t ∈ l, t.text.length ≤ 140737488351232) (r : Res) (hR : Rd l (.bin 1) 0 r) :
    Calls Tryz.prog 37 #[.slice p l.length c, .int .i64 0, .int .i64 1] w (RfPost r w) :=
  (rfRead_all hP hl hX l.length 0 (Nat.zero_le _) (by omega)).2 1 (by decide) (by decide) w r (Below.refl _ w) hR
end Go.Proofs.YtmokejjndkibhaaGreatDoor

namespace Go.Proofs.YtmokejjndkibhaaGreatDoor
open Go.RowKit Go.Shelf Ex
set_option linter.unusedVariables false
set_option linter.unusedSimpArgs false
attribute [local go_sem] sB_extract

theorem cnt_at (q : UInt8 → Bool) (s : List UInt8) (a : Nat) : ∀ d, d ≤ cntW q (s.drop a) → cntW q (s.drop (a + d)) + d = cntW q (s.drop a)
  | 0, _ => rfl
  | d + 1, h => by
    have ih := cnt_at q s a d (by omega)
    have hlt : a + d < s.length := by
      have := cntW_le q (s.drop (a + d))
      rw [List.length_drop] at this; omega
    rw [cntW_at hlt] at ih
    split at ih
    · rw [show a + (d + 1) = a + d + 1 by omega]; omega
    · omega
theorem cnt_in {q : UInt8 → Bool} {s : List UInt8} {a k : Nat} (h1 : a ≤ k) (h2 : k < a + cntW q (s.drop a)) : ∃ h : k < s.length, q s[k] = true := by
  have ih := cnt_at q s a (k - a) (by omega)
  rw [show a + (k - a) = k by omega] at ih
  have hlt : k < s.length := by
    have := cntW_le q (s.drop k)
    rw [List.length_drop] at this; omega
  refine ⟨hlt, ?_⟩
  rw [cntW_at hlt] at ih
  split at ih
  · assumption
  · omega
theorem cnt_end {q : UInt8 → Bool} {s : List UInt8} {a : Nat} (h : a + cntW q (s.drop a) < s.length) : q s[a + cntW q (s.drop a)] = false := by
  have ih := cnt_at q s a _ (Nat.le_refl _)
  rw [cntW_at h] at ih
  split at ih
  · omega
  · rename_i hq; simpa using hq
set_option maxRecDepth 100000 in
set_option maxHeartbeats 8000000 in
theorem rfOneN_any (s : List UInt8) (a : Nat) (w : World) (hs : s.length ≤ 100000) (h : a < s.length) (hl : letB s[a] = true) :
    Gives Tryz.prog 49 #[sV s, .int .i64 (a : Int)] w (.tuple #[TV (oneT (s.drop a) (a : Int)).1, .int .i64 (oneT (s.drop a) (a : Int)).2]) := by
  unfold Gives
  have hsz := sB_size s
  have hqa0 : a < (sB s).size := by omega
  have KL := Lib.hid (fun W => (show Gives Tryz.prog 74 #[.int .u8 ((s[a]'h).toNat : Int)] W (.bool true) from by rw [← hl]; exact rfLetter_any _ W))
  have hR0 := oneT_name h hl (a : Int)
  have hle := cntW_le insC (s.drop a)
  rw [List.length_drop] at hle
  have HIN := Lib.hid (fun k h1 h2 => cnt_in (q := insC) (s := s) (a := a) (k := k) h1 h2)
  have HEND := Lib.hid (fun h => cnt_end (q := insC) (s := s) (a := a) h)
  have HT := Lib.hid (sub_take s a (cntW insC (s.drop a)))
  generalize cntW insC (s.drop a) = n at *
  generalize (s.drop a).take n = T at *
  obtain ⟨m, hm⟩ : ∃ m, a + n = m := ⟨_, rfl⟩
  rw [hm] at HIN HT
  simp only [hm] at HEND
  generalize oneT (s.drop a) (a : Int) = R at *
  have HR := Lib.hid hR0.symm
  clear hl hR0
  go_enter Tryz.func49, Tryz.ntmps49
  go_wp2_with fail
  refine (KL.out _).mono ?_
  intro w1 hE
  obtain ⟨hb, hE1⟩ := kept_new hE
  have HB1 := Lib.hid hb
  have HE1 := Lib.hid hE1
  clear hE hE1
  have d0 := cell_of (i := 0) hb rfl
  have d1 := cell_of (i := 1) hb rfl
  have d2 := cell_of (i := 2) hb rfl
  have d3 := cell_of (i := 3) hb rfl
  have f0 : ∀ i, w1.frozen? ⟨w.heap.size, i, none⟩ = false := fun i => free_of hb
  clear hb
  go_wp2
  go_loopw [6] (fun v wr => ∃ k : Nat, a ≤ k ∧ k ≤ m ∧ v = .int .i64 (k : Int) ∧ wr.heap[w.heap.size]? = some (.cells #[.int .i64 0, sV [], .int .i64 0, .int .i64 0] tTk (0, 0)) ∧ Ext w wr) (fun v _ => m - (intOf v).toNat)
  case atStart => exact ⟨a, Nat.le_refl _, by omega, rfl, HB1.out, HE1.out⟩
  case round =>
    obtain ⟨k, hk1, hk2, rfl, hb, hE⟩ := hrel
    have HB2 := Lib.hid hb
    have HE2 := Lib.hid hE
    clear hE d0 d1 d2 d3 f0
    have d0 := cell_of (i := 0) hb rfl
    have d1 := cell_of (i := 1) hb rfl
    have d2 := cell_of (i := 2) hb rfl
    have d3 := cell_of (i := 3) hb rfl
    have f0 : ∀ i, wr.frozen? ⟨w.heap.size, i, none⟩ = false := fun i => free_of hb
    clear hb
    by_cases hlt : k < m
    · obtain ⟨hks, hq⟩ := HIN.out k hk1 hlt
      have KQ := Lib.hid (fun W => (show Gives Tryz.prog 75 #[.int .u8 ((s[k]'hks).toNat : Int)] W (.bool true) from by rw [← hq]; exact rfInside_any _ W))
      have hq2 : k < (sB s).size := by omega
      clear hq
      go_wp2_with fail
      refine (KQ.out _).mono ?_
      intro w3 hE
      have hb := (hE.block _ (lt_of_block HB2.out)).trans HB2.out
      have HB3 := Lib.hid hb
      have HE3 := Lib.hid (Ext.trans HE2.out hE)
      clear hE hb d0 d1 d2 d3 f0
      go_wp2
      go_roundw
      case rel => exact ⟨k + 1, by omega, by omega, by go_num, HB3.out, HE3.out⟩
      case measure => simp [intOf]; omega
    · obtain rfl : k = m := by omega
      clear hk1 hk2 hlt HIN
      by_cases hks : k < s.length
      · have hq2 : k < (sB s).size := by omega
        have hqf := HEND.out hks
        have KQ := Lib.hid (fun W => (show Gives Tryz.prog 75 #[.int .u8 ((s[k]'hks).toNat : Int)] W (.bool false) from by rw [← hqf]; exact rfInside_any _ W))
        go_wp2_with fail
        refine (KQ.out _).mono ?_
        intro w3 hE
        have hb := (hE.block _ (lt_of_block HB2.out)).trans HB2.out
        have HB3 := Lib.hid hb
        have HE3 := Lib.hid (Ext.trans HE2.out hE)
        clear hE
        clear d0 d1 d2 d3 f0
        have d0 := cell_of (i := 0) hb rfl
        have d1 := cell_of (i := 1) hb rfl
        have d2 := cell_of (i := 2) hb rfl
        have d3 := cell_of (i := 3) hb rfl
        have f0 : ∀ i, w3.frozen? ⟨w.heap.size, i, none⟩ = false := fun i => free_of hb
        clear hb
        by_cases hn : 30 < n
        · have hn2 : (30 : Int) < (k : Int) - (a : Int) := by omega
          go_wp2
          obtain ⟨W', hW', h3, h4, h5⟩ := put4 (HB3).out rfl (.int .i64 0) (.string { data := #[] }) (.int .i64 0) (.int .i64 0)
          rw [hW']
          have e0 := cell_of (i := 0) h3 rfl
          have e1 := cell_of (i := 1) h3 rfl
          have e2 := cell_of (i := 2) h3 rfl
          have e3 := cell_of (i := 3) h3 rfl
          exact bodyPost_ret (v := .tuple #[.agg #[(.int .i64 0), (.string { data := #[] }), (.int .i64 0), (.int .i64 0)], .int .i64 5]) (by simp [results, Tryz.f49, go_sem, e0, e1, e2, e3]) rfl ⟨(by rw [← HR.out, if_pos hn]; rfl), Below.trans (HE3).out (h4 _ (Nat.le_refl _))⟩
        · have hn2 : ¬ (30 : Int) < (k : Int) - (a : Int) := by omega
          go_wp2
          obtain ⟨W', hW', h3, h4, h5⟩ := put4 (HB3).out rfl (.int .i64 1) (.string (sB ((s.take k).drop a))) (.int .i64 0) (.int .i64 (a : Int))
          rw [hW']
          have e0 := cell_of (i := 0) h3 rfl
          have e1 := cell_of (i := 1) h3 rfl
          have e2 := cell_of (i := 2) h3 rfl
          have e3 := cell_of (i := 3) h3 rfl
          exact bodyPost_ret (v := .tuple #[.agg #[(.int .i64 1), (.string (sB ((s.take k).drop a))), (.int .i64 0), (.int .i64 (a : Int))], .int .i64 0]) (by simp [results, Tryz.f49, go_sem, e0, e1, e2, e3]) rfl ⟨(by rw [← HR.out, if_neg hn, HT.out]), Below.trans (HE3).out (h4 _ (Nat.le_refl _))⟩
      · have hks2 : ¬ (k : Int) < (s.length : Int) := by omega
        by_cases hn : 30 < n
        · have hn2 : (30 : Int) < (k : Int) - (a : Int) := by omega
          go_wp2
          obtain ⟨W', hW', h3, h4, h5⟩ := put4 (HB2).out rfl (.int .i64 0) (.string { data := #[] }) (.int .i64 0) (.int .i64 0)
          rw [hW']
          have e0 := cell_of (i := 0) h3 rfl
          have e1 := cell_of (i := 1) h3 rfl
          have e2 := cell_of (i := 2) h3 rfl
          have e3 := cell_of (i := 3) h3 rfl
          exact bodyPost_ret (v := .tuple #[.agg #[(.int .i64 0), (.string { data := #[] }), (.int .i64 0), (.int .i64 0)], .int .i64 5]) (by simp [results, Tryz.f49, go_sem, e0, e1, e2, e3]) rfl ⟨(by rw [← HR.out, if_pos hn]; rfl), Below.trans (HE2).out (h4 _ (Nat.le_refl _))⟩
        · have hn2 : ¬ (30 : Int) < (k : Int) - (a : Int) := by omega
          go_wp2
          obtain ⟨W', hW', h3, h4, h5⟩ := put4 (HB2).out rfl (.int .i64 1) (.string (sB ((s.take k).drop a))) (.int .i64 0) (.int .i64 (a : Int))
          rw [hW']
          have e0 := cell_of (i := 0) h3 rfl
          have e1 := cell_of (i := 1) h3 rfl
          have e2 := cell_of (i := 2) h3 rfl
          have e3 := cell_of (i := 3) h3 rfl
          exact bodyPost_ret (v := .tuple #[.agg #[(.int .i64 1), (.string (sB ((s.take k).drop a))), (.int .i64 0), (.int .i64 (a : Int))], .int .i64 0]) (by simp [results, Tryz.f49, go_sem, e0, e1, e2, e3]) rfl ⟨(by rw [← HR.out, if_neg hn, HT.out]), Below.trans (HE2).out (h4 _ (Nat.le_refl _))⟩
set_option maxRecDepth 100000 in
set_option maxHeartbeats 8000000 in
theorem rfOneD_any (s : List UInt8) (a : Nat) (w : World) (hs : s.length ≤ 100000) (h : a < s.length) (hl : letB s[a] = false) (hd : digB s[a] = true) :
    Gives Tryz.prog 49 #[sV s, .int .i64 (a : Int)] w (.tuple #[TV (oneT (s.drop a) (a : Int)).1, .int .i64 (oneT (s.drop a) (a : Int)).2]) := by
  unfold Gives
  have hsz := sB_size s
  have hqa0 : a < (sB s).size := by omega
  have KL := Lib.hid (fun W => (show Gives Tryz.prog 74 #[.int .u8 ((s[a]'h).toNat : Int)] W (.bool false) from by rw [← hl]; exact rfLetter_any _ W))
  have KD := Lib.hid (fun W => (show Gives Tryz.prog 76 #[.int .u8 ((s[a]'h).toNat : Int)] W (.bool true) from by rw [← hd]; exact rfDigit_any _ W))
  have hR0 := oneT_num h hl hd (a : Int)
  have hle := cntW_le digB (s.drop a)
  rw [List.length_drop] at hle
  have HIN := Lib.hid (fun k h1 h2 => cnt_in (q := digB) (s := s) (a := a) (k := k) h1 h2)
  have HEND := Lib.hid (fun h => cnt_end (q := digB) (s := s) (a := a) h)
  have HT := Lib.hid (sub_take s a (cntW digB (s.drop a)))
  have hdg := digs_take (s.drop a)
  have HANY := Lib.hid (fun hks : a + cntW digB (s.drop a) < s.length => (show ((s[a + cntW digB (s.drop a)]?).any fun d => letB d || decide (d.toNat = 95)) = insC (s[a + cntW digB (s.drop a)]'hks) from by
    have hf := cnt_end (q := digB) hks
    rw [List.getElem?_eq_getElem hks]
    unfold insC
    rw [hf]
    simp))
  have HANY0 := Lib.hid (fun hks : ¬ a + cntW digB (s.drop a) < s.length => (show ((s[a + cntW digB (s.drop a)]?).any fun d => letB d || decide (d.toNat = 95)) = false from by
    rw [List.getElem?_eq_none (by omega)]; rfl))
  generalize cntW digB (s.drop a) = n at *
  have hTl : ((s.drop a).take n).length ≤ 100000 := by rw [List.length_take, List.length_drop]; omega
  generalize (s.drop a).take n = T at *
  obtain ⟨m, hm⟩ : ∃ m, a + n = m := ⟨_, rfl⟩
  rw [hm] at HIN HT
  simp only [hm] at HEND HANY HANY0
  rw [hm] at hR0
  generalize oneT (s.drop a) (a : Int) = R at *
  have HR := Lib.hid hR0.symm
  have KN := Lib.hid (fun W => (show Gives Tryz.prog 77 #[sV ((s.take m).drop a)] W (.int .i64 (satV 0 T)) from by rw [HT.out]; exact rfNumber_any T hdg hTl W))
  have HBIG := Lib.hid (fun hb : 1099511627776 < satV 0 T => (show 1099511627776 < numV T from by rcases satV_num hdg with e | e <;> omega))
  have HSML := Lib.hid (fun hb : satV 0 T ≤ 1099511627776 => (show numV T ≤ 1099511627776 ∧ satV 0 T = numV T from by rcases satV_num hdg with e | e <;> exact ⟨by omega, by omega⟩))
  clear hl hd hdg hTl hR0
  go_enter Tryz.func49, Tryz.ntmps49
  go_wp2_with fail
  refine (KL.out _).mono ?_
  intro w1 hE
  obtain ⟨hb, hE1⟩ := kept_new hE
  have HB1 := Lib.hid hb
  have HE1 := Lib.hid hE1
  clear hE hE1
  have d0 := cell_of (i := 0) hb rfl
  have d1 := cell_of (i := 1) hb rfl
  have d2 := cell_of (i := 2) hb rfl
  have d3 := cell_of (i := 3) hb rfl
  have f0 : ∀ i, w1.frozen? ⟨w.heap.size, i, none⟩ = false := fun i => free_of hb
  clear hb
  go_wp2_with fail
  refine (KD.out _).mono ?_
  intro w2 hE
  have hb := (hE.block _ (lt_of_block HB1.out)).trans HB1.out
  have HB2 := Lib.hid hb
  have HE2 := Lib.hid (Ext.trans HE1.out hE)
  clear hE
  clear d0 d1 d2 d3 f0
  have d0 := cell_of (i := 0) hb rfl
  have d1 := cell_of (i := 1) hb rfl
  have d2 := cell_of (i := 2) hb rfl
  have d3 := cell_of (i := 3) hb rfl
  have f0 : ∀ i, w2.frozen? ⟨w.heap.size, i, none⟩ = false := fun i => free_of hb
  clear hb
  go_wp2
  go_loopw [6] (fun v wr => ∃ k : Nat, a ≤ k ∧ k ≤ m ∧ v = .int .i64 (k : Int) ∧ wr.heap[w.heap.size]? = some (.cells #[.int .i64 0, sV [], .int .i64 0, .int .i64 0] tTk (0, 0)) ∧ Ext w wr) (fun v _ => m - (intOf v).toNat)
  case atStart => exact ⟨a, Nat.le_refl _, by omega, rfl, HB2.out, HE2.out⟩
  case round =>
    obtain ⟨k, hk1, hk2, rfl, hb, hE⟩ := hrel
    have HB2 := Lib.hid hb
    have HE2 := Lib.hid hE
    clear hE d0 d1 d2 d3 f0
    have d0 := cell_of (i := 0) hb rfl
    have d1 := cell_of (i := 1) hb rfl
    have d2 := cell_of (i := 2) hb rfl
    have d3 := cell_of (i := 3) hb rfl
    have f0 : ∀ i, wr.frozen? ⟨w.heap.size, i, none⟩ = false := fun i => free_of hb
    clear hb
    by_cases hlt : k < m
    · obtain ⟨hks, hq⟩ := HIN.out k hk1 hlt
      have KQ := Lib.hid (fun W => (show Gives Tryz.prog 76 #[.int .u8 ((s[k]'hks).toNat : Int)] W (.bool true) from by rw [← hq]; exact rfDigit_any _ W))
      have hq2 : k < (sB s).size := by omega
      clear hq
      go_wp2_with fail
      refine (KQ.out _).mono ?_
      intro w3 hE
      have hb := (hE.block _ (lt_of_block HB2.out)).trans HB2.out
      have HB3 := Lib.hid hb
      have HE3 := Lib.hid (Ext.trans HE2.out hE)
      clear hE hb d0 d1 d2 d3 f0
      go_wp2
      go_roundw
      case rel => exact ⟨k + 1, by omega, by omega, by go_num, HB3.out, HE3.out⟩
      case measure => simp [intOf]; omega
    · obtain rfl : k = m := by omega
      clear hk1 hk2 hlt HIN
      by_cases hks : k < s.length
      · have hq2 : k < (sB s).size := by omega
        have hqf := HEND.out hks
        have KQ := Lib.hid (fun W => (show Gives Tryz.prog 76 #[.int .u8 ((s[k]'hks).toNat : Int)] W (.bool false) from by rw [← hqf]; exact rfDigit_any _ W))
        go_wp2_with fail
        refine (KQ.out _).mono ?_
        intro w3 hE
        have hb := (hE.block _ (lt_of_block HB2.out)).trans HB2.out
        have HB3 := Lib.hid hb
        have HE3 := Lib.hid (Ext.trans HE2.out hE)
        clear hE
        clear d0 d1 d2 d3 f0
        have d0 := cell_of (i := 0) hb rfl
        have d1 := cell_of (i := 1) hb rfl
        have d2 := cell_of (i := 2) hb rfl
        have d3 := cell_of (i := 3) hb rfl
        have f0 : ∀ i, w3.frozen? ⟨w.heap.size, i, none⟩ = false := fun i => free_of hb
        clear hb
        by_cases hbad : 1 < n ∧ (s[a]'h).toNat = 48
        · have HBAD := Lib.hid hbad
          obtain ⟨b1, b2⟩ := hbad
          have b3 : (1 : Int) < (k : Int) - (a : Int) := by omega
          have hqa : a < (sB s).size := by omega
          go_wp2
          obtain ⟨W', hW', h3, h4, h5⟩ := put4 (HB3).out rfl (.int .i64 0) (.string { data := #[] }) (.int .i64 0) (.int .i64 0)
          rw [hW']
          have e0 := cell_of (i := 0) h3 rfl
          have e1 := cell_of (i := 1) h3 rfl
          have e2 := cell_of (i := 2) h3 rfl
          have e3 := cell_of (i := 3) h3 rfl
          exact bodyPost_ret (v := .tuple #[.agg #[(.int .i64 0), (.string { data := #[] }), (.int .i64 0), (.int .i64 0)], .int .i64 3]) (by simp [results, Tryz.f49, go_sem, e0, e1, e2, e3]) rfl ⟨(by rw [← HR.out, if_pos (Or.inl HBAD.out)]; rfl), Below.trans (HE3).out (h4 _ (Nat.le_refl _))⟩
        · by_cases b1 : 1 < n
          · have b2 : (((s[a]'h).toNat : Int) == 48) = false := beq_eq_false_iff_ne.2 (by intro e; exact hbad ⟨b1, by omega⟩)
            have b3 : (1 : Int) < (k : Int) - (a : Int) := by omega
            have hqa : a < (sB s).size := by omega
            obtain ⟨lb, hlb⟩ : ∃ b, insC (s[k]'hks) = b := ⟨_, rfl⟩
            have hany := HANY.out hks
            rw [hlb] at hany
            have KI2 := Lib.hid (fun W => (show Gives Tryz.prog 75 #[.int .u8 ((s[k]'hks).toNat : Int)] W (.bool lb) from by rw [← hlb]; exact rfInside_any _ W))
            clear hlb
            cases lb with
            | true =>
              have HAN := Lib.hid hany
              clear hany
              go_wp2_with fail
              refine (KI2.out _).mono ?_
              intro w4 hE
              have hb := (hE.block _ (lt_of_block HB3.out)).trans HB3.out
              have HB4 := Lib.hid hb
              have HE4 := Lib.hid (Ext.trans HE3.out hE)
              clear hE
              clear d0 d1 d2 d3 f0
              have d0 := cell_of (i := 0) hb rfl
              have d1 := cell_of (i := 1) hb rfl
              have d2 := cell_of (i := 2) hb rfl
              have d3 := cell_of (i := 3) hb rfl
              have f0 : ∀ i, w4.frozen? ⟨w.heap.size, i, none⟩ = false := fun i => free_of hb
              clear hb
              go_wp2
              obtain ⟨W', hW', h3, h4, h5⟩ := put4 (HB4).out rfl (.int .i64 0) (.string { data := #[] }) (.int .i64 0) (.int .i64 0)
              rw [hW']
              have e0 := cell_of (i := 0) h3 rfl
              have e1 := cell_of (i := 1) h3 rfl
              have e2 := cell_of (i := 2) h3 rfl
              have e3 := cell_of (i := 3) h3 rfl
              exact bodyPost_ret (v := .tuple #[.agg #[(.int .i64 0), (.string { data := #[] }), (.int .i64 0), (.int .i64 0)], .int .i64 3]) (by simp [results, Tryz.f49, go_sem, e0, e1, e2, e3]) rfl ⟨(by rw [← HR.out, if_pos (Or.inr HAN.out)]; rfl), Below.trans (HE4).out (h4 _ (Nat.le_refl _))⟩
            | false =>
              have HNB := Lib.hid (show ¬ ((1 < n ∧ (s[a]'h).toNat = 48) ∨ ((s[k]?).any fun d => letB d || decide (d.toNat = 95)) = true) from fun e => e.elim hbad (fun e2 => by rw [hany] at e2; cases e2))
              clear hany
              go_wp2_with fail
              refine (KI2.out _).mono ?_
              intro w4 hE
              have hb := (hE.block _ (lt_of_block HB3.out)).trans HB3.out
              have HB4 := Lib.hid hb
              have HE4 := Lib.hid (Ext.trans HE3.out hE)
              clear hE
              clear d0 d1 d2 d3 f0
              have d0 := cell_of (i := 0) hb rfl
              have d1 := cell_of (i := 1) hb rfl
              have d2 := cell_of (i := 2) hb rfl
              have d3 := cell_of (i := 3) hb rfl
              have f0 : ∀ i, w4.frozen? ⟨w.heap.size, i, none⟩ = false := fun i => free_of hb
              clear hb
              go_wp2_with fail
              refine (KN.out _).mono ?_
              intro w5 hE
              have hb := (hE.block _ (lt_of_block HB4.out)).trans HB4.out
              have HB5 := Lib.hid hb
              have HE5 := Lib.hid (Ext.trans HE4.out hE)
              clear hE
              clear d0 d1 d2 d3 f0
              have d0 := cell_of (i := 0) hb rfl
              have d1 := cell_of (i := 1) hb rfl
              have d2 := cell_of (i := 2) hb rfl
              have d3 := cell_of (i := 3) hb rfl
              have f0 : ∀ i, w5.frozen? ⟨w.heap.size, i, none⟩ = false := fun i => free_of hb
              clear hb
              by_cases hbig : 1099511627776 < satV 0 T
              · go_wp2
                obtain ⟨W', hW', h3, h4, h5⟩ := put4 (HB5).out rfl (.int .i64 0) (.string { data := #[] }) (.int .i64 0) (.int .i64 0)
                rw [hW']
                have e0 := cell_of (i := 0) h3 rfl
                have e1 := cell_of (i := 1) h3 rfl
                have e2 := cell_of (i := 2) h3 rfl
                have e3 := cell_of (i := 3) h3 rfl
                exact bodyPost_ret (v := .tuple #[.agg #[(.int .i64 0), (.string { data := #[] }), (.int .i64 0), (.int .i64 0)], .int .i64 2]) (by simp [results, Tryz.f49, go_sem, e0, e1, e2, e3]) rfl ⟨(by rw [← HR.out, if_neg HNB.out, if_pos (HBIG.out hbig)]; rfl), Below.trans (HE5).out (h4 _ (Nat.le_refl _))⟩
              · have HSV := Lib.hid (HSML.out (by omega))
                obtain ⟨nv, hnv⟩ : ∃ v, satV 0 T = v := ⟨_, rfl⟩
                have HNV := Lib.hid hnv
                rw [hnv] at hbig ⊢
                clear hnv
                go_wp2
                obtain ⟨W', hW', h3, h4, h5⟩ := put4 (HB5).out rfl (.int .i64 2) (.string (sB ((s.take k).drop a))) (.int .i64 nv) (.int .i64 (a : Int))
                rw [hW']
                have e0 := cell_of (i := 0) h3 rfl
                have e1 := cell_of (i := 1) h3 rfl
                have e2 := cell_of (i := 2) h3 rfl
                have e3 := cell_of (i := 3) h3 rfl
                exact bodyPost_ret (v := .tuple #[.agg #[(.int .i64 2), (.string (sB ((s.take k).drop a))), (.int .i64 nv), (.int .i64 (a : Int))], .int .i64 0]) (by simp [results, Tryz.f49, go_sem, e0, e1, e2, e3]) rfl ⟨(by rw [← HR.out, if_neg HNB.out, if_neg (by have h9 := HSV.out.1; omega), ← HSV.out.2, HNV.out, HT.out]), Below.trans (HE5).out (h4 _ (Nat.le_refl _))⟩
          · have b3 : ¬ (1 : Int) < (k : Int) - (a : Int) := by omega
            obtain ⟨lb, hlb⟩ : ∃ b, insC (s[k]'hks) = b := ⟨_, rfl⟩
            have hany := HANY.out hks
            rw [hlb] at hany
            have KI2 := Lib.hid (fun W => (show Gives Tryz.prog 75 #[.int .u8 ((s[k]'hks).toNat : Int)] W (.bool lb) from by rw [← hlb]; exact rfInside_any _ W))
            clear hlb
            cases lb with
            | true =>
              have HAN := Lib.hid hany
              clear hany
              go_wp2_with fail
              refine (KI2.out _).mono ?_
              intro w4 hE
              have hb := (hE.block _ (lt_of_block HB3.out)).trans HB3.out
              have HB4 := Lib.hid hb
              have HE4 := Lib.hid (Ext.trans HE3.out hE)
              clear hE
              clear d0 d1 d2 d3 f0
              have d0 := cell_of (i := 0) hb rfl
              have d1 := cell_of (i := 1) hb rfl
              have d2 := cell_of (i := 2) hb rfl
              have d3 := cell_of (i := 3) hb rfl
              have f0 : ∀ i, w4.frozen? ⟨w.heap.size, i, none⟩ = false := fun i => free_of hb
              clear hb
              go_wp2
              obtain ⟨W', hW', h3, h4, h5⟩ := put4 (HB4).out rfl (.int .i64 0) (.string { data := #[] }) (.int .i64 0) (.int .i64 0)
              rw [hW']
              have e0 := cell_of (i := 0) h3 rfl
              have e1 := cell_of (i := 1) h3 rfl
              have e2 := cell_of (i := 2) h3 rfl
              have e3 := cell_of (i := 3) h3 rfl
              exact bodyPost_ret (v := .tuple #[.agg #[(.int .i64 0), (.string { data := #[] }), (.int .i64 0), (.int .i64 0)], .int .i64 3]) (by simp [results, Tryz.f49, go_sem, e0, e1, e2, e3]) rfl ⟨(by rw [← HR.out, if_pos (Or.inr HAN.out)]; rfl), Below.trans (HE4).out (h4 _ (Nat.le_refl _))⟩
            | false =>
              have HNB := Lib.hid (show ¬ ((1 < n ∧ (s[a]'h).toNat = 48) ∨ ((s[k]?).any fun d => letB d || decide (d.toNat = 95)) = true) from fun e => e.elim hbad (fun e2 => by rw [hany] at e2; cases e2))
              clear hany
              go_wp2_with fail
              refine (KI2.out _).mono ?_
              intro w4 hE
              have hb := (hE.block _ (lt_of_block HB3.out)).trans HB3.out
              have HB4 := Lib.hid hb
              have HE4 := Lib.hid (Ext.trans HE3.out hE)
              clear hE
              clear d0 d1 d2 d3 f0
              have d0 := cell_of (i := 0) hb rfl
              have d1 := cell_of (i := 1) hb rfl
              have d2 := cell_of (i := 2) hb rfl
              have d3 := cell_of (i := 3) hb rfl
              have f0 : ∀ i, w4.frozen? ⟨w.heap.size, i, none⟩ = false := fun i => free_of hb
              clear hb
              go_wp2_with fail
              refine (KN.out _).mono ?_
              intro w5 hE
              have hb := (hE.block _ (lt_of_block HB4.out)).trans HB4.out
              have HB5 := Lib.hid hb
              have HE5 := Lib.hid (Ext.trans HE4.out hE)
              clear hE
              clear d0 d1 d2 d3 f0
              have d0 := cell_of (i := 0) hb rfl
              have d1 := cell_of (i := 1) hb rfl
              have d2 := cell_of (i := 2) hb rfl
              have d3 := cell_of (i := 3) hb rfl
              have f0 : ∀ i, w5.frozen? ⟨w.heap.size, i, none⟩ = false := fun i => free_of hb
              clear hb
              by_cases hbig : 1099511627776 < satV 0 T
              · go_wp2
                obtain ⟨W', hW', h3, h4, h5⟩ := put4 (HB5).out rfl (.int .i64 0) (.string { data := #[] }) (.int .i64 0) (.int .i64 0)
                rw [hW']
                have e0 := cell_of (i := 0) h3 rfl
                have e1 := cell_of (i := 1) h3 rfl
                have e2 := cell_of (i := 2) h3 rfl
                have e3 := cell_of (i := 3) h3 rfl
                exact bodyPost_ret (v := .tuple #[.agg #[(.int .i64 0), (.string { data := #[] }), (.int .i64 0), (.int .i64 0)], .int .i64 2]) (by simp [results, Tryz.f49, go_sem, e0, e1, e2, e3]) rfl ⟨(by rw [← HR.out, if_neg HNB.out, if_pos (HBIG.out hbig)]; rfl), Below.trans (HE5).out (h4 _ (Nat.le_refl _))⟩
              · have HSV := Lib.hid (HSML.out (by omega))
                obtain ⟨nv, hnv⟩ : ∃ v, satV 0 T = v := ⟨_, rfl⟩
                have HNV := Lib.hid hnv
                rw [hnv] at hbig ⊢
                clear hnv
                go_wp2
                obtain ⟨W', hW', h3, h4, h5⟩ := put4 (HB5).out rfl (.int .i64 2) (.string (sB ((s.take k).drop a))) (.int .i64 nv) (.int .i64 (a : Int))
                rw [hW']
                have e0 := cell_of (i := 0) h3 rfl
                have e1 := cell_of (i := 1) h3 rfl
                have e2 := cell_of (i := 2) h3 rfl
                have e3 := cell_of (i := 3) h3 rfl
                exact bodyPost_ret (v := .tuple #[.agg #[(.int .i64 2), (.string (sB ((s.take k).drop a))), (.int .i64 nv), (.int .i64 (a : Int))], .int .i64 0]) (by simp [results, Tryz.f49, go_sem, e0, e1, e2, e3]) rfl ⟨(by rw [← HR.out, if_neg HNB.out, if_neg (by have h9 := HSV.out.1; omega), ← HSV.out.2, HNV.out, HT.out]), Below.trans (HE5).out (h4 _ (Nat.le_refl _))⟩
      · have hks2 : ¬ (k : Int) < (s.length : Int) := by omega
        by_cases hbad : 1 < n ∧ (s[a]'h).toNat = 48
        · have HBAD := Lib.hid hbad
          obtain ⟨b1, b2⟩ := hbad
          have b3 : (1 : Int) < (k : Int) - (a : Int) := by omega
          have hqa : a < (sB s).size := by omega
          go_wp2
          obtain ⟨W', hW', h3, h4, h5⟩ := put4 (HB2).out rfl (.int .i64 0) (.string { data := #[] }) (.int .i64 0) (.int .i64 0)
          rw [hW']
          have e0 := cell_of (i := 0) h3 rfl
          have e1 := cell_of (i := 1) h3 rfl
          have e2 := cell_of (i := 2) h3 rfl
          have e3 := cell_of (i := 3) h3 rfl
          exact bodyPost_ret (v := .tuple #[.agg #[(.int .i64 0), (.string { data := #[] }), (.int .i64 0), (.int .i64 0)], .int .i64 3]) (by simp [results, Tryz.f49, go_sem, e0, e1, e2, e3]) rfl ⟨(by rw [← HR.out, if_pos (Or.inl HBAD.out)]; rfl), Below.trans (HE2).out (h4 _ (Nat.le_refl _))⟩
        · by_cases b1 : 1 < n
          · have b2 : (((s[a]'h).toNat : Int) == 48) = false := beq_eq_false_iff_ne.2 (by intro e; exact hbad ⟨b1, by omega⟩)
            have b3 : (1 : Int) < (k : Int) - (a : Int) := by omega
            have hqa : a < (sB s).size := by omega
            have hany := HANY0.out hks
            have HNB := Lib.hid (show ¬ ((1 < n ∧ (s[a]'h).toNat = 48) ∨ ((s[k]?).any fun d => letB d || decide (d.toNat = 95)) = true) from fun e => e.elim hbad (fun e2 => by rw [hany] at e2; cases e2))
            clear hany
            go_wp2_with fail
            refine (KN.out _).mono ?_
            intro w3 hE
            have hb := (hE.block _ (lt_of_block HB2.out)).trans HB2.out
            have HB3 := Lib.hid hb
            have HE3 := Lib.hid (Ext.trans HE2.out hE)
            clear hE
            clear d0 d1 d2 d3 f0
            have d0 := cell_of (i := 0) hb rfl
            have d1 := cell_of (i := 1) hb rfl
            have d2 := cell_of (i := 2) hb rfl
            have d3 := cell_of (i := 3) hb rfl
            have f0 : ∀ i, w3.frozen? ⟨w.heap.size, i, none⟩ = false := fun i => free_of hb
            clear hb
            by_cases hbig : 1099511627776 < satV 0 T
            · go_wp2
              obtain ⟨W', hW', h3, h4, h5⟩ := put4 (HB3).out rfl (.int .i64 0) (.string { data := #[] }) (.int .i64 0) (.int .i64 0)
              rw [hW']
              have e0 := cell_of (i := 0) h3 rfl
              have e1 := cell_of (i := 1) h3 rfl
              have e2 := cell_of (i := 2) h3 rfl
              have e3 := cell_of (i := 3) h3 rfl
              exact bodyPost_ret (v := .tuple #[.agg #[(.int .i64 0), (.string { data := #[] }), (.int .i64 0), (.int .i64 0)], .int .i64 2]) (by simp [results, Tryz.f49, go_sem, e0, e1, e2, e3]) rfl ⟨(by rw [← HR.out, if_neg HNB.out, if_pos (HBIG.out hbig)]; rfl), Below.trans (HE3).out (h4 _ (Nat.le_refl _))⟩
            · have HSV := Lib.hid (HSML.out (by omega))
              obtain ⟨nv, hnv⟩ : ∃ v, satV 0 T = v := ⟨_, rfl⟩
              have HNV := Lib.hid hnv
              rw [hnv] at hbig ⊢
              clear hnv
              go_wp2
              obtain ⟨W', hW', h3, h4, h5⟩ := put4 (HB3).out rfl (.int .i64 2) (.string (sB ((s.take k).drop a))) (.int .i64 nv) (.int .i64 (a : Int))
              rw [hW']
              have e0 := cell_of (i := 0) h3 rfl
              have e1 := cell_of (i := 1) h3 rfl
              have e2 := cell_of (i := 2) h3 rfl
              have e3 := cell_of (i := 3) h3 rfl
              exact bodyPost_ret (v := .tuple #[.agg #[(.int .i64 2), (.string (sB ((s.take k).drop a))), (.int .i64 nv), (.int .i64 (a : Int))], .int .i64 0]) (by simp [results, Tryz.f49, go_sem, e0, e1, e2, e3]) rfl ⟨(by rw [← HR.out, if_neg HNB.out, if_neg (by have h9 := HSV.out.1; omega), ← HSV.out.2, HNV.out, HT.out]), Below.trans (HE3).out (h4 _ (Nat.le_refl _))⟩
          · have b3 : ¬ (1 : Int) < (k : Int) - (a : Int) := by omega
            have hany := HANY0.out hks
            have HNB := Lib.hid (show ¬ ((1 < n ∧ (s[a]'h).toNat = 48) ∨ ((s[k]?).any fun d => letB d || decide (d.toNat = 95)) = true) from fun e => e.elim hbad (fun e2 => by rw [hany] at e2; cases e2))
            clear hany
            go_wp2_with fail
            refine (KN.out _).mono ?_
            intro w3 hE
            have hb := (hE.block _ (lt_of_block HB2.out)).trans HB2.out
            have HB3 := Lib.hid hb
            have HE3 := Lib.hid (Ext.trans HE2.out hE)
            clear hE
            clear d0 d1 d2 d3 f0
            have d0 := cell_of (i := 0) hb rfl
            have d1 := cell_of (i := 1) hb rfl
            have d2 := cell_of (i := 2) hb rfl
            have d3 := cell_of (i := 3) hb rfl
            have f0 : ∀ i, w3.frozen? ⟨w.heap.size, i, none⟩ = false := fun i => free_of hb
            clear hb
            by_cases hbig : 1099511627776 < satV 0 T
            · go_wp2
              obtain ⟨W', hW', h3, h4, h5⟩ := put4 (HB3).out rfl (.int .i64 0) (.string { data := #[] }) (.int .i64 0) (.int .i64 0)
              rw [hW']
              have e0 := cell_of (i := 0) h3 rfl
              have e1 := cell_of (i := 1) h3 rfl
              have e2 := cell_of (i := 2) h3 rfl
              have e3 := cell_of (i := 3) h3 rfl
              exact bodyPost_ret (v := .tuple #[.agg #[(.int .i64 0), (.string { data := #[] }), (.int .i64 0), (.int .i64 0)], .int .i64 2]) (by simp [results, Tryz.f49, go_sem, e0, e1, e2, e3]) rfl ⟨(by rw [← HR.out, if_neg HNB.out, if_pos (HBIG.out hbig)]; rfl), Below.trans (HE3).out (h4 _ (Nat.le_refl _))⟩
            · have HSV := Lib.hid (HSML.out (by omega))
              obtain ⟨nv, hnv⟩ : ∃ v, satV 0 T = v := ⟨_, rfl⟩
              have HNV := Lib.hid hnv
              rw [hnv] at hbig ⊢
              clear hnv
              go_wp2
              obtain ⟨W', hW', h3, h4, h5⟩ := put4 (HB3).out rfl (.int .i64 2) (.string (sB ((s.take k).drop a))) (.int .i64 nv) (.int .i64 (a : Int))
              rw [hW']
              have e0 := cell_of (i := 0) h3 rfl
              have e1 := cell_of (i := 1) h3 rfl
              have e2 := cell_of (i := 2) h3 rfl
              have e3 := cell_of (i := 3) h3 rfl
              exact bodyPost_ret (v := .tuple #[.agg #[(.int .i64 2), (.string (sB ((s.take k).drop a))), (.int .i64 nv), (.int .i64 (a : Int))], .int .i64 0]) (by simp [results, Tryz.f49, go_sem, e0, e1, e2, e3]) rfl ⟨(by rw [← HR.out, if_neg HNB.out, if_neg (by have h9 := HSV.out.1; omega), ← HSV.out.2, HNV.out, HT.out]), Below.trans (HE3).out (h4 _ (Nat.le_refl _))⟩
set_option maxRecDepth 100000 in
set_option maxHeartbeats 8000000 in
theorem rfOneS_any (s : List UInt8) (a : Nat) (w : World) (hs : s.length ≤ 100000) (h : a < s.length) (hl : letB s[a] = false) (hd : digB s[a] = false) :
    Gives Tryz.prog 49 #[sV s, .int .i64 (a : Int)] w (.tuple #[TV (oneT (s.drop a) (a : Int)).1, .int .i64 (oneT (s.drop a) (a : Int)).2]) := by
  unfold Gives
  have hsz := sB_size s
  have hqa0 : a < (sB s).size := by omega
  have KL := Lib.hid (fun W => (show Gives Tryz.prog 74 #[.int .u8 ((s[a]'h).toNat : Int)] W (.bool false) from by rw [← hl]; exact rfLetter_any _ W))
  have KD := Lib.hid (fun W => (show Gives Tryz.prog 76 #[.int .u8 ((s[a]'h).toNat : Int)] W (.bool false) from by rw [← hd]; exact rfDigit_any _ W))
  have hR0 := oneT_sign h hl hd (a : Int)
  have hle := sgLen_le (s.drop a)
  have KS := Lib.hid (fun W => rfSign_any (s.drop a) (by rw [List.length_drop]; omega) W)
  rw [List.length_drop] at hle
  have HT := Lib.hid (sub_take s a (sgLen (s.drop a)))
  generalize sgLen (s.drop a) = n at *
  generalize (s.drop a).take n = T at *
  generalize oneT (s.drop a) (a : Int) = R at *
  have HR := Lib.hid hR0.symm
  clear hl hd hR0
  go_enter Tryz.func49, Tryz.ntmps49
  go_wp2_with fail
  refine (KL.out _).mono ?_
  intro w1 hE
  obtain ⟨hb, hE1⟩ := kept_new hE
  have HB1 := Lib.hid hb
  have HE1 := Lib.hid hE1
  clear hE hE1
  have d0 := cell_of (i := 0) hb rfl
  have d1 := cell_of (i := 1) hb rfl
  have d2 := cell_of (i := 2) hb rfl
  have d3 := cell_of (i := 3) hb rfl
  have f0 : ∀ i, w1.frozen? ⟨w.heap.size, i, none⟩ = false := fun i => free_of hb
  clear hb
  go_wp2_with fail
  refine (KD.out _).mono ?_
  intro w2 hE
  have hb := (hE.block _ (lt_of_block HB1.out)).trans HB1.out
  have HB2 := Lib.hid hb
  have HE2 := Lib.hid (Ext.trans HE1.out hE)
  clear hE
  clear d0 d1 d2 d3 f0
  have d0 := cell_of (i := 0) hb rfl
  have d1 := cell_of (i := 1) hb rfl
  have d2 := cell_of (i := 2) hb rfl
  have d3 := cell_of (i := 3) hb rfl
  have f0 : ∀ i, w2.frozen? ⟨w.heap.size, i, none⟩ = false := fun i => free_of hb
  clear hb
  go_wp2_with fail
  refine (KS.out _).mono ?_
  intro w3 hE
  have hb := (hE.block _ (lt_of_block HB2.out)).trans HB2.out
  have HB3 := Lib.hid hb
  have HE3 := Lib.hid (Ext.trans HE2.out hE)
  clear hE
  clear d0 d1 d2 d3 f0
  have d0 := cell_of (i := 0) hb rfl
  have d1 := cell_of (i := 1) hb rfl
  have d2 := cell_of (i := 2) hb rfl
  have d3 := cell_of (i := 3) hb rfl
  have f0 : ∀ i, w3.frozen? ⟨w.heap.size, i, none⟩ = false := fun i => free_of hb
  clear hb
  by_cases hn : n = 0
  · have hn2 : ((n : Int) == 0) = true := by simpa using (show (n : Int) = 0 by omega)
    go_wp2
    obtain ⟨W', hW', h3, h4, h5⟩ := put4 (HB3).out rfl (.int .i64 0) (.string { data := #[] }) (.int .i64 0) (.int .i64 0)
    rw [hW']
    have e0 := cell_of (i := 0) h3 rfl
    have e1 := cell_of (i := 1) h3 rfl
    have e2 := cell_of (i := 2) h3 rfl
    have e3 := cell_of (i := 3) h3 rfl
    exact bodyPost_ret (v := .tuple #[.agg #[(.int .i64 0), (.string { data := #[] }), (.int .i64 0), (.int .i64 0)], .int .i64 3]) (by simp [results, Tryz.f49, go_sem, e0, e1, e2, e3]) rfl ⟨(by rw [← HR.out, if_pos hn]; rfl), Below.trans (HE3).out (h4 _ (Nat.le_refl _))⟩
  · have hn2 : ((n : Int) == 0) = false := by simpa using (show ¬ (n : Int) = 0 by omega)
    go_wp2
    obtain ⟨W', hW', h3, h4, h5⟩ := put4 (HB3).out rfl (.int .i64 3) (.string (sB ((s.take (a + n)).drop a))) (.int .i64 0) (.int .i64 (a : Int))
    rw [hW']
    have e0 := cell_of (i := 0) h3 rfl
    have e1 := cell_of (i := 1) h3 rfl
    have e2 := cell_of (i := 2) h3 rfl
    have e3 := cell_of (i := 3) h3 rfl
    exact bodyPost_ret (v := .tuple #[.agg #[(.int .i64 3), (.string (sB ((s.take (a + n)).drop a))), (.int .i64 0), (.int .i64 (a : Int))], .int .i64 0]) (by simp [results, Tryz.f49, go_sem, e0, e1, e2, e3]) rfl ⟨(by rw [← HR.out, if_neg hn, HT.out]), Below.trans (HE3).out (h4 _ (Nat.le_refl _))⟩
theorem rfOne_any (s : List UInt8) (a : Nat) (w : World) (hs : s.length ≤ 100000) (h : a < s.length) :
    Gives Tryz.prog 49 #[sV s, .int .i64 (a : Int)] w (.tuple #[TV (oneT (s.drop a) (a : Int)).1, .int .i64 (oneT (s.drop a) (a : Int)).2]) := by
  cases hl : letB s[a] with
  | true => exact rfOneN_any s a w hs h hl
  | false =>
    cases hd : digB s[a] with
    | true => exact rfOneD_any s a w hs h hl hd
    | false => exact rfOneS_any s a w hs h hl hd
end Go.Proofs.YtmokejjndkibhaaGreatDoor

namespace Go.Proofs.YtmokejjndkibhaaGreatDoor
open Go.RowKit
set_option linter.unusedVariables false
set_option linter.unusedSimpArgs false

structure AtJ (l : List Oper) (R : World → World → Prop) (Φ : Nat → (Nat → Value) → World → Prop) (J : Array Bool → World → Prop) (a : Act) (w : World) (i : Nat) (o : Oper) (listed : Array Bool) (a' : Act) (W : World) : Prop extends AtG l R Φ a w i o a' W where
  jnv : J listed W
  nl : listed.getD i false = false
  lsz : listed.size = l.length
  lanc : ∀ k, ancB l l.length i k = true → listed.getD k false = true
structure InvJ (l : List Oper) (R : World → World → Prop) (Φ : Nat → (Nat → Value) → World → Prop) (J : Array Bool → World → Prop) (a : Act) (w : World) (listed : Array Bool) (a' : Act) (W : World) : Prop extends InvG l R Φ a w listed a' W where
  jnv : J listed W
def GoesJ (P : Program) (l : List Oper) (R : World → World → Prop) (Φ : Nat → (Nat → Value) → World → Prop) (J : Array Bool → World → Prop) (i : Nat) (o : Oper) (listed : Array Bool) (a' : Act) (W : World) (Q : Exit → Act → World → Prop) : Prop :=
  if Region.wanted o (yielded l.toArray a'.tmps) then
    o.wp P a' W (fun a2 W2 => ∃ v, a2 = a'.put o.dst v ∧ R W W2 ∧ J (listed.setIfInBounds i true) W2 ∧ ∀ s : Nat → Value, (o.dst.isSome = true → s i = v) → (∀ k, k ≠ i → ancB l l.length i k = true → s k = sv l a' k) → Φ i s W2) Q
  else R W W ∧ J (listed.setIfInBounds i true) W ∧ ∀ s : Nat → Value, (o.dst.isSome = true → s i = undef) → (∀ k, k ≠ i → ancB l l.length i k = true → s k = sv l a' k) → Φ i s W
/-- an operation of which GoesG is known, with the invariant in the relation -/
theorem GoesJ.of {P : Program} {l : List Oper} {R : World → World → Prop} {Φ : Nat → (Nat → Value) → World → Prop} {J : Array Bool → World → Prop} {i : Nat} {o : Oper} {listed : Array Bool} {a' : Act} {W : World} {Q : Exit → Act → World → Prop} (h : GoesG P l (fun A B => R A B ∧ J (listed.setIfInBounds i true) B) Φ i o a' W Q) : GoesJ P l R Φ J i o listed a' W Q := by
  unfold GoesJ
  unfold GoesG at h
  split
  · rename_i hw
    rw [if_pos hw] at h
    exact Oper.wp_mono (fun a2 W2 ⟨v, e, hR, hv⟩ => ⟨v, e, hR.1, hR.2, hv⟩) h
  · rename_i hw
    rw [if_neg hw] at h
    exact ⟨h.1.1, h.1.2, h.2⟩

theorem wp_region_tailj {P : Program} {id : Nat} {Q : Exit → Act → World → Prop} {a : Act} {w : World} {l1 l2 : List Oper} (hm : P.follows .mixedOrders = true)
    (R : World → World → Prop) (hRr : ∀ W, R W W) (hR0 : ∀ W : World, R W { W with drawn := W.drawn + 1 }) (hRt : ∀ {A B C}, R A B → R B C → R A C)
    (Φ : Nat → (Nat → Value) → World → Prop) (J : Array Bool → World → Prop) (hJ0 : J (Array.replicate (l1 ++ l2).length false) { w with drawn := w.drawn + 1 }) (D : Nat → List Nat) (hst : ∀ j s s' W W', Φ j s W → (∀ k ∈ D j, s' k = s k) → R W W' → Φ j s' W')
    (hback : backB (l1 ++ l2) = true) (hun : uniqB (l1 ++ l2) = true) (hreads : readsB (l1 ++ l2) D = true) (N : Nat) (hN : a.tmps.size = N) (hinB : (((l1 ++ l2).filterMap (·.dst)).all fun d => decide (d < N)) = true)
    (htail : tailB (l1 ++ l2) l1.length = true)
    (hstep : ∀ (i : Nat) o, l1[i]? = some o → ∀ listed a' W, AtJ (l1 ++ l2) R Φ J a w i o listed a' W → GoesJ P (l1 ++ l2) R Φ J i o listed a' W Q)
    (hend : ∀ (vs : List Value) (listed : Array Bool) W, vs.length = l1.length → R w W → J listed W → (∀ j, j < l1.length → listed.getD j false = true) → (∀ j, j < l1.length → Φ j (fun k => vs.getD k undef) W) → wpList P (l1 ++ l2).toArray Q l2 (putAll l1 vs a) W) :
    (Code.region id (l1 ++ l2).toArray true).wp P Q a w := by
  have hin : ∀ d ∈ (l1 ++ l2).filterMap (·.dst), d < a.tmps.size := fun d hd => by rw [hN]; exact of_decide_eq_true (List.all_eq_true.1 hinB d hd)
  generalize hl : l1 ++ l2 = l at *
  have hl1 : ∀ j, j < l1.length → l1[j]? = l[j]? := fun j hj => by rw [← hl, List.getElem?_append_left hj]
  have hlen : l1.length ≤ l.length := by rw [← hl]; simp
  have hdrop : l2 = l.drop l1.length := by rw [← hl]; simp
  refine wp_region_any hm ?_
  have fin : ∀ (listed : Array Bool) (a' : Act) (W : World), listed.toList.count false = l.length - l1.length → (∀ j, l1.length ≤ j → listed.getD j false = false) → (∀ j, j < l1.length → listed.getD j false = true) → InvJ l R Φ J a w listed a' W →
      wpAny P .any l.toArray Q (l.length - l1.length) listed a' W := by
    intro listed a' W hc hlo hall hI
    refine tail_any hback htail l2 l1.length listed a' W hdrop (Nat.le_refl _) hlen hI.lsize hall hlo ?_
    have e : a' = putAll l1 (l1.map fun o => match o.dst with | none => undef | some d => a'.tmps.getD d undef) a := by
      refine act_eq (by rw [putAll_size]; exact hI.size) (by rw [putAll_defers]; exact hI.defers) ?_
      intro d hlt
      by_cases hm : d ∈ l1.filterMap (·.dst)
      · obtain ⟨o, ho, hod⟩ := List.mem_filterMap.1 hm
        obtain ⟨j, hj⟩ := List.getElem?_of_mem ho
        have hjl : j < l1.length := (List.getElem?_eq_some_iff.1 hj).1
        rw [putAll_self l1 _ a j o d (by simp) hj hod (fun i p hp e => uniqB_spec hun (by rw [← hl1 i (List.getElem?_eq_some_iff.1 hp).1]; exact hp) (by rw [← hl1 j hjl]; exact hj) e hod) (by rw [← hI.size]; exact hlt)]
        rw [List.getD_eq_getElem?_getD, List.getElem?_map, hj]
        simp [hod]
      · rw [putAll_other l1 _ a d (fun o ho e => hm (List.mem_filterMap.2 ⟨o, ho, e⟩))]
        refine hI.old d (fun j oj hj hd => ?_)
        rcases Nat.lt_or_ge j l1.length with h | h
        · exact absurd (List.mem_filterMap.2 ⟨oj, List.mem_of_getElem? (by rw [hl1 j h]; exact hj), hd⟩) hm
        · exact hlo j h
    rw [e]
    refine hend _ listed W (by simp) hI.rel hI.jnv hall (fun j hj => ?_)
    refine hst j _ _ W W (hI.new j (by omega) (hall j hj)) (fun k hk => ?_) (hRr W)
    have hkj : k ≤ j := by
      have h1 := List.all_eq_true.1 (List.all_eq_true.1 hreads j (List.mem_range.2 (by omega))) k hk
      simp only [Bool.or_eq_true, decide_eq_true_eq] at h1
      rcases h1 with h1 | h1
      · omega
      · exact Nat.le_of_lt (anc_back hback _ _ _ h1)
    have hkl : k < l1.length := by omega
    unfold sv
    rw [List.getD_eq_getElem?_getD, List.getElem?_map, hl1 k hkl]
    cases hk : l[k]? with
    | none => rfl
    | some o => cases hod : o.dst <;> simp [hod]
  have main : ∀ (fuel : Nat) (listed : Array Bool) (a' : Act) (W : World), listed.toList.count false = fuel → (∀ j, l1.length ≤ j → listed.getD j false = false) → InvJ l R Φ J a w listed a' W → wpAny P .any l.toArray Q fuel listed a' W := by
    intro fuel
    have cnt : ∀ (listed : Array Bool), listed.size = l.length → (∀ j, l1.length ≤ j → listed.getD j false = false) → (∀ j, j < l1.length → listed.getD j false = true) → listed.toList.count false = l.length - l1.length := by
      intro listed hs hlo hall
      have e : listed.toList = List.replicate l1.length true ++ List.replicate (l.length - l1.length) false := by
        apply List.ext_getElem?
        intro i
        by_cases hi : i < listed.size
        · have hg : ∀ b, listed.getD i false = b → listed.toList[i]? = some b := fun b hb => by
            rw [getD_of_lt hi false true] at hb
            simp only [Array.getD_eq_getD_getElem?, Array.getElem?_eq_getElem hi, Option.getD_some] at hb
            simp [hi, hb]
          by_cases h : i < l1.length
          · rw [hg true (hall i h), List.getElem?_append_left (by simpa using h)]
            simp [h]
          · rw [hg false (hlo i (by omega)), List.getElem?_append_right (by simp; omega), List.getElem?_replicate, if_pos (by rw [List.length_replicate]; omega)]
        · rw [List.getElem?_eq_none (by simpa using hi), List.getElem?_eq_none (by simp; omega)]
      rw [e, List.count_append, List.count_replicate, List.count_replicate]
      simp
    induction fuel with
    | zero =>
      intro listed a' W hc hlo hI
      have hall' : ∀ i, i < l.length → listed.getD i false = true := by
        intro i hi
        have hi' : i < listed.size := by rw [hI.lsize]; exact hi
        cases hb : listed.getD i false with
        | true => rfl
        | false =>
          exfalso
          have : false ∈ listed.toList := by
            simp only [Array.getD_eq_getD_getElem?, Array.getElem?_eq_getElem hi', Option.getD_some] at hb
            rw [← hb]; simp
          have := List.count_pos_iff.2 this
          omega
      have hall : ∀ i, i < l1.length → listed.getD i false = true := fun i hi => hall' i (by omega)
      have hc2 := cnt listed hI.lsize hlo hall
      have := fin listed a' W hc2 hlo hall hI
      rw [show l.length - l1.length = 0 by omega] at this
      exact this
    | succ fuel ih =>
      intro listed a' W hc hlo hI
      by_cases hall : ∀ j, j < l1.length → listed.getD j false = true
      · have hc2 := cnt listed hI.lsize hlo hall
        have := fin listed a' W hc2 hlo hall hI
        rw [show l.length - l1.length = fuel + 1 by omega] at this
        exact this
      · obtain ⟨j0, hj0⟩ := Classical.not_forall.1 hall
        obtain ⟨hj0l, hj0f⟩ := Classical.not_imp.1 hj0
        refine ⟨fun h0 => ?_, fun i hi => ?_⟩
        · exact absurd (all_listed hback hI.lsize h0 j0 (by omega)) hj0f
        · obtain ⟨hl0, o, ho, hwait⟩ := mem_ready.1 hi
          have ho' : l[i]? = some o := by simpa using ho
          have hil : i < l.length := (List.getElem?_eq_some_iff.1 ho').1
          have hil' : i < listed.size := by rw [hI.lsize]; exact hil
          have hlf : listed.getD i false = false := by
            rw [getD_of_lt hil' false true]; exact hl0
          have hanc : ∀ n k, ancB l n i k = true → listed.getD k false = true := by
            intro n k hk
            cases n with
            | zero => simp [ancB] at hk
            | succ n =>
              unfold ancB at hk
              rw [ho'] at hk
              obtain ⟨e, he, hh⟩ := List.any_eq_true.1 hk
              simp only [Bool.and_eq_true, Bool.or_eq_true, decide_eq_true_eq] at hh
              have h1 := hwait e (by simpa using he) hh.1
              rcases hh.2 with h2 | h2
              · rw [← h2]; exact h1
              · exact hI.down.anc n e.on k h1 h2
          have hi1 : i < l1.length := by
            rcases Nat.lt_or_ge i l1.length with h | h
            · exact h
            · exact absurd (hanc _ _ (tailB_spec htail hil h (by omega : j0 < i))) hj0f
          have hAt : AtJ l R Φ J a w i o listed a' W := ⟨⟨hI.rel, hI.size, hI.defers,
            fun d hd => hI.old d (fun j oj hj hdj => by
              have hji := hd j oj hj hdj
              cases hlj : listed.getD j false with
              | false => rfl
              | true =>
                have := hI.down.anc _ j i hlj hji
                rw [hlf] at this; cases this),
            fun j hj ha => hI.new j hj (hanc _ j ha)⟩, hI.jnv, hlf, hI.lsize, fun k hk => hanc _ k hk⟩
          have hG := hstep i o (by rw [hl1 i hi1]; exact ho') listed a' W hAt
          have hnext : ∀ v W2, R W W2 → J (listed.setIfInBounds i true) W2 → (∀ s : Nat → Value, (o.dst.isSome = true → s i = v) → (∀ k, k ≠ i → ancB l l.length i k = true → s k = sv l a' k) → Φ i s W2) → wpAny P .any l.toArray Q fuel (listed.setIfInBounds i true) (a'.put o.dst v) W2 := by
            intro v W2 hR hS hv
            have hin' : ∀ d ∈ l.filterMap (·.dst), d < a'.tmps.size := fun d hd => by rw [hI.size]; exact hin d hd
            have hset : ∀ j, j ≠ i → (listed.setIfInBounds i true).getD j false = listed.getD j false := fun j hj => getD_set_ne false (Ne.symm hj)
            refine ih _ _ _ ?_ (fun j hj => by rw [hset j (by omega)]; exact hlo j hj) ?_
            · have := count_set listed.toList i (by simp [hil']; simpa [Array.getD_eq_getD_getElem?, hil'] using hlf)
              rw [Array.toList_setIfInBounds]; omega
            · refine ⟨⟨hRt hI.rel hR, by simpa using hI.lsize, by rw [put_size]; exact hI.size, by rw [put_defers]; exact hI.defers, ?_, ?_, ?_⟩, ?_⟩
              · intro d hd
                have hne : o.dst ≠ some d := fun e => by
                  have := hd i o ho' e
                  simp [Array.getD_eq_getD_getElem?, hil'] at this
                rw [put_other hne]
                refine hI.old d (fun j oj hj hdj => ?_)
                by_cases hji : j = i
                · subst hji; exact hlf
                · have := hd j oj hj hdj
                  rwa [hset j hji] at this
              · intro j hj hlj
                by_cases hji : j = i
                · subst hji
                  exact hv _ (fun hd => sv_put_self ho' hin' hd) (fun k hk _ => sv_put_other hun ho' hk)
                · rw [hset j hji] at hlj
                  refine hst j _ _ _ _ (hI.new j hj hlj) (fun k hk => sv_put_other hun ho' ?_) hR
                  rintro rfl
                  have h1 := List.all_eq_true.1 (List.all_eq_true.1 hreads j (List.mem_range.2 hj)) k hk
                  simp only [Bool.or_eq_true, decide_eq_true_eq] at h1
                  rcases h1 with h1 | h1
                  · exact hji h1.symm
                  · have := hI.down.anc _ j k hlj h1
                    rw [hlf] at this; cases this
              · intro j oj hj hlj e he hb
                by_cases hji : j = i
                · subst hji
                  rw [ho'] at hj; cases hj
                  exact getD_set_true (hwait e he hb)
                · rw [hset j hji] at hlj
                  exact getD_set_true (hI.down j oj hj hlj e he hb)
              · exact hS
          unfold wpOp
          rw [show l.toArray[i]? = some o by simpa using ho']
          unfold GoesJ at hG
          by_cases hwant : Region.wanted o (yielded l.toArray a'.tmps) = true
          · rw [if_pos hwant] at hG
            simp only [hwant, if_true]
            exact .inl (Oper.wp_mono (fun a2 W2 ⟨v, e, hR, hS, hv⟩ => by rw [e]; exact hnext v W2 hR hS hv) hG)
          · rw [if_neg hwant] at hG
            simp only [hwant]
            exact hnext undef W hG.1 hG.2.1 hG.2.2
  have h0 := main l.length (Array.replicate l.length false) a { w with drawn := w.drawn + 1 } (by simp) (fun j _ => getD_false _ _)
    ⟨⟨hR0 w, by simp, rfl, rfl, fun _ _ => rfl, (fun j _ h => by rw [getD_false] at h; cases h), (fun j oj _ h => by rw [getD_false] at h; cases h)⟩, hJ0⟩
  simpa using h0

end Go.Proofs.YtmokejjndkibhaaGreatDoor

namespace Go.Proofs.YtmokejjndkibhaaGreatDoor
open Go.RowKit Go.Shelf Ex
set_option linter.unusedVariables false
set_option linter.unusedSimpArgs false

theorem GoesG.appendT {P : Program} {l : List Oper} {R : World → World → Prop} {Φ : Nat → (Nat → Value) → World → Prop} {i : Nat} {o : Oper} {a' : Act} {W W' : World} {Q : Exit → Act → World → Prop} (hg : o.guard = none) (s x : Operand) (t : TypeId) (ho : o.op = .call { callee := .builtin .append, args := #[s, x], argTypes := #[t, t] })
    (v v' sl : Value) (hs : a'.eval s = v) (hx : a'.eval x = sl) (hr : (Builtin.append_ #[t, t] o.type #[v, sl]).run P W = .ok v' W') (hR : R W W')
    (hΦ : ∀ s : Nat → Value, (o.dst.isSome = true → s i = v') → (∀ k, k ≠ i → ancB l l.length i k = true → s k = sv l a' k) → Φ i s W') : GoesG P l R Φ i o a' W Q :=
  GoesG.value v' hg (by simp only [execOp, ho, resolve, invoke, builtin, Sem.run_bind, Sem.run_pure, Result.andThen_ok, List.map_toArray, List.map_cons, List.map_nil, hs, hx, hr]) hR hΦ
theorem RowT.empty (w : World) (base : Nat) (hb : base ≤ w.heap.size) : RowT base (.slice (some ⟨w.heap.size, 0, none⟩) 0 0) [] (w.alloc (.cells #[] 36)) :=
  World.ownsRow_lit w #[] 0 hb (by unfold maxLen; omega) (by simp)
/-- a token appended to a row of one's own, as a run -/
theorem appT_run (base : Nat) (v : Value) (l : List Tk) (W : World) (h : RowT base v l W) (r : Tk) (g : Nat) (cs : Array Value) (hg : W.heap[g]? = some (.cells cs 36 (0, 0))) (hcs : cs.toList = cTk r) (ty : TypeId) (hlen : l.length ≤ 1000000000) (hbase : base ≤ W.heap.size) :
    ∃ v' w', (Builtin.append_ #[31, 31] ty #[v, .slice (some ⟨g, 0, none⟩) 1 1]).run Tryz.prog W = .ok v' w' ∧ RowT base v' (l ++ [r]) w' ∧ Below base W w' ∧ ∀ b, b < W.heap.size → v.ownBlock ≠ some b → w'.heap[b]? = W.heap[b]? := by
  obtain ⟨i0, hi, hz0, hz1, hz2⟩ := info_parts infoTk
  obtain ⟨v', w', h1, h2, h3, _⟩ := run_append_own_wide W base 31 ty 36 i0 (.agg #[.int .i64 0, sV [], .int .i64 0, .int .i64 0]) 4 40 Tryz.underlying31 hi hz0 hz1 hz2 rfl (by decide) v l.length (l.flatMap cTk) h ⟨g, 0, none⟩ 1 1 (cTk r) rfl (fun j u hu => by
      have e : (⟨g, 0, none⟩ : Addr).add j = ⟨g, j, none⟩ := by unfold Addr.add; split <;> simp_all
      rw [e]
      refine cell_of hg ?_
      rw [← hcs] at hu
      simpa using hu) (fun u hu => by
      simp only [cTk, List.mem_cons, List.not_mem_nil, or_false] at hu
      rcases hu with rfl | rfl | rfl | rfl <;> rfl) (by unfold maxLen; omega) (by omega) hbase
  refine ⟨v', w', h1, ?_, ?_, fun b hb1 hb2 => h3.block b hb1 (fun e => hb2 e.symm)⟩
  · unfold RowT
    simpa [List.flatMap_append] using h2
  · exact (Below.refl base W).grown h3 hbase (fun k e => (World.ownsRow.lt h k e).1)
end Go.Proofs.YtmokejjndkibhaaGreatDoor

namespace Go.Proofs.YtmokejjndkibhaaGreatDoor
open Go.RowKit Go.Shelf Ex
set_option linter.unusedVariables false
set_option linter.unusedSimpArgs false

/-- the world is W0 until operation 2, W1 until operation 3, W2 from then on -/
def J3 (W0 W1 W2 : World) (listed : Array Bool) (W : World) : Prop := (listed.getD 3 false = true → listed.getD 2 false = true) ∧ W = if listed.getD 3 false = true then W2 else if listed.getD 2 false = true then W1 else W0
theorem getD_setN {listed : Array Bool} {i j : Nat} (h : i ≠ j) : (listed.setIfInBounds i true).getD j false = listed.getD j false := by
  simp [Array.getD_eq_getD_getElem?, Array.getElem?_setIfInBounds, h]
theorem getD_setS {listed : Array Bool} {i : Nat} (h : i < listed.size) : (listed.setIfInBounds i true).getD i false = true := by
  simp [Array.getD_eq_getD_getElem?, h]
theorem J3.init (W0 W1 W2 : World) (n : Nat) : J3 W0 W1 W2 (Array.replicate n false) W0 := by
  have h : ∀ i, (Array.replicate n false).getD i false = false := fun i => by
    simp [Array.getD_eq_getD_getElem?, Array.getElem?_replicate]
    split <;> rfl
  unfold J3
  rw [h, h]
  exact ⟨(fun e => by cases e), by simp⟩
theorem J3.other {W0 W1 W2 W : World} {listed : Array Bool} {i : Nat} (h : J3 W0 W1 W2 listed W) (h2 : i ≠ 2) (h3 : i ≠ 3) : J3 W0 W1 W2 (listed.setIfInBounds i true) W := by
  unfold J3 at h ⊢
  rw [getD_setN h2, getD_setN h3]; exact h
theorem J3.two {W0 W1 W2 W : World} {listed : Array Bool} (h : J3 W0 W1 W2 listed W) (h2 : listed.getD 2 false = false) : W = W0 := by
  obtain ⟨a, b⟩ := h
  rw [h2] at a b
  have h3 : listed.getD 3 false = false := by
    cases e : listed.getD 3 false with
    | false => rfl
    | true => exact absurd (a e) (by decide)
  rw [h3] at b
  simpa using b
theorem J3.two' {W0 W1 W2 W : World} {listed : Array Bool} (h : J3 W0 W1 W2 listed W) (hs : 2 < listed.size) (h2 : listed.getD 2 false = false) : J3 W0 W1 W2 (listed.setIfInBounds 2 true) W1 := by
  have a := h.1
  have h3 : listed.getD 3 false = false := by
    cases e : listed.getD 3 false with
    | false => rfl
    | true => have := a e; rw [h2] at this; cases this
  unfold J3
  rw [getD_setS hs, getD_setN (by decide), h3]
  exact ⟨fun _ => rfl, by simp⟩
theorem J3.three {W0 W1 W2 W : World} {listed : Array Bool} (h : J3 W0 W1 W2 listed W) (h2 : listed.getD 2 false = true) (h3 : listed.getD 3 false = false) : W = W1 := by
  have b := h.2
  rw [h2, h3] at b
  simpa using b
theorem J3.three' {W0 W1 W2 W : World} {listed : Array Bool} (h : J3 W0 W1 W2 listed W) (hs : 3 < listed.size) (h2 : listed.getD 2 false = true) : J3 W0 W1 W2 (listed.setIfInBounds 3 true) W2 := by
  unfold J3
  rw [getD_setS hs, getD_setN (by decide), h2]
  exact ⟨fun _ => rfl, by simp⟩
theorem J3.cases {W0 W1 W2 W : World} {listed : Array Bool} (h : J3 W0 W1 W2 listed W) : W = W0 ∨ W = W1 ∨ W = W2 := by
  have b := h.2
  split at b
  · exact .inr (.inr b)
  · split at b
    · exact .inr (.inl b)
    · exact .inl b
theorem J3.fin {W0 W1 W2 W : World} {listed : Array Bool} (h : J3 W0 W1 W2 listed W) (h3 : listed.getD 3 false = true) : W = W2 := by
  have b := h.2
  rw [h3] at b
  simpa using b
theorem toksF_blk {s : List UInt8} {f a b : Nat} {acc : List Tk} (h : a + skipB false (s.drop a) = b + skipB false (s.drop b)) : toksF s (f + 1) a acc = toksF s (f + 1) b acc := by
  simp only [toksF, h]
set_option maxRecDepth 100000 in
set_option maxHeartbeats 16000000 in
theorem rfTokens_any (s : List UInt8) (w : World) (hs : s.length ≤ 100000) :
    Calls Tryz.prog 21 #[sV s] w fun e w' => ∃ v, e = .returned (.tuple #[v, .int .i64 (toksR s).2.1, .int .i64 (toksR s).2.2]) ∧ RowT w.heap.size v (toksR s).1 w' ∧ Ext w w' := by
  have hsz := sB_size s
  obtain ⟨R, hR⟩ : ∃ R, toksR s = R := ⟨_, rfl⟩
  rw [hR]
  have HNIL := Lib.hid (fun (W : World) (hW : Ext w W) => RowT.empty W w.heap.size hW.size)
  by_cases hbig : 4000 < s.length
  · have HR := Lib.hid (show R = ([], 0, 4) by rw [← hR]; unfold toksR; rw [if_pos hbig])
    clear hR
    go_enter Tryz.func21, Tryz.ntmps21
    go_wp2
    exact bodyPost_ret (v := .tuple #[.slice (some ⟨w.heap.size, 0, none⟩) 0 0, .int .i64 0, .int .i64 4]) (by simp [results, Tryz.f21, go_sem]) rfl ⟨_, by rw [HR.out], by rw [HR.out]; exact HNIL.out w (Below.refl _ _), ext_alloc _ _⟩
  · have HR := Lib.hid (show toksF s (s.length + 1) 0 [] = R by rw [← hR]; unfold toksR; rw [if_neg hbig])
    clear hR
    have HROW0 := Lib.hid (HNIL.out w (Below.refl _ _))
    go_enter Tryz.func21, Tryz.ntmps21
    go_wp2
    go_loopw [5, 6] (fun v5 v6 wr => ∃ (a f : Nat) (acc : List Tk) (vv : Value), vv = v5 ∧ v6 = .int .i64 (a : Int) ∧ a ≤ s.length ∧ s.length + 1 ≤ f + a ∧ acc.length ≤ a ∧ toksF s f a acc = R ∧ RowT w.heap.size vv acc wr ∧ Ext w wr) (fun _ v6 _ => s.length - (intOf v6).toNat)
    case atStart => exact ⟨0, s.length + 1, [], _, rfl, rfl, Nat.zero_le _, by omega, Nat.le_refl _, HR.out, HROW0.out, ext_alloc _ _⟩
    case round =>
      obtain ⟨a, f, acc, vv, rfl, rfl, ha, hf, hac, hR, hrow, hE⟩ := hrel
      have HROW := Lib.hid hrow
      have HE := Lib.hid hE
      obtain ⟨f, rfl⟩ : ∃ f', f = f' + 1 := ⟨f - 1, by omega⟩
      have HRR := Lib.hid hR
      have HF := Lib.hid hf
      have HAC := Lib.hid hac
      have hac2 : acc.length ≤ s.length := by omega
      have hwz : w.heap.size ≤ wr.heap.size := hE.size
      clear hrow hE hR hf hac
      by_cases hlt : a < s.length
      · have hq : a < (sB s).size := by omega
        have HSK := Lib.hid (fun h => blk_skip (s := s) hlt h)
        have HNO := Lib.hid (fun h1 h2 h3 h4 => blk_none (s := s) hlt h1 h2 h3 h4)
        have HCM := Lib.hid (fun h k h1 h2 h3 h4 => blk_comment (s := s) (k := k) hlt h h1 h2 h3 h4)
        obtain ⟨c, hc⟩ : ∃ c : Nat, (s[a]'hlt).toNat = c := ⟨_, rfl⟩
        have HC := Lib.hid hc
        rw [hc] at HSK HNO HCM
        by_cases hb : c = 32 ∨ c = 9 ∨ c = 10
        · have HNX := Lib.hid (show toksF s (f + 1) (a + 1) acc = R from by rw [← toksF_blk (HSK.out hb)]; exact HRR.out)
          clear HSK HNO HCM
          rcases hb with rfl | rfl | rfl
          · go_wp2
            go_roundw
            case rel => exact ⟨a + 1, f + 1, acc, vv, rfl, by go_num, by omega, by have := HF.out; omega, by have := HAC.out; omega, HNX.out, HROW.out, HE.out⟩
            case measure => simp [intOf]; omega
          · go_wp2
            go_roundw
            case rel => exact ⟨a + 1, f + 1, acc, vv, rfl, by go_num, by omega, by have := HF.out; omega, by have := HAC.out; omega, HNX.out, HROW.out, HE.out⟩
            case measure => simp [intOf]; omega
          · go_wp2
            go_roundw
            case rel => exact ⟨a + 1, f + 1, acc, vv, rfl, by go_num, by omega, by have := HF.out; omega, by have := HAC.out; omega, HNX.out, HROW.out, HE.out⟩
            case measure => simp [intOf]; omega
        · have c1 : ((c : Int) == 32) = false := by simpa using (show ¬ (c : Int) = 32 by omega)
          have c2 : ((c : Int) == 9) = false := by simpa using (show ¬ (c : Int) = 9 by omega)
          have c3 : ((c : Int) == 10) = false := by simpa using (show ¬ (c : Int) = 10 by omega)
          by_cases h35 : c = 35
          · subst h35
            clear HSK HNO hb c1 c2 c3
            go_wp2
            go_loopw [6] (fun v6 wx => ∃ k : Nat, a ≤ k ∧ k ≤ s.length ∧ v6 = .int .i64 (k : Int) ∧ (∀ j (hj : j < s.length), a ≤ j → j < k → (s[j]).toNat ≠ 10) ∧ wx = wr) (fun v6 _ => s.length - (intOf v6).toNat)
            case atStart => exact ⟨a, Nat.le_refl _, by omega, rfl, fun j _ h1 h2 => by omega, rfl⟩
            case round =>
              obtain ⟨k, hk1, hk2, rfl, hno, rfl⟩ := hrel
              have HNN := Lib.hid hno
              clear hno
              by_cases hkl : k < s.length
              · have hqk : k < (sB s).size := by omega
                obtain ⟨d, hd⟩ : ∃ d : Nat, (s[k]'hkl).toNat = d := ⟨_, rfl⟩
                have HD := Lib.hid hd
                by_cases h10 : d = 10
                · have HK := Lib.hid (show a + skipB false (s.drop a) = k + skipB false (s.drop k) from HCM.out (by first | rfl | trivial) k hk1 hk2 HNN.out (fun _ => by rw [HD.out]; exact h10))
                  have hak : a ≠ k := by rintro rfl; have h1 := HC.out; have h2 := HD.out; omega
                  subst h10
                  have HNX := Lib.hid (show toksF s (f + 1) k acc = R from by rw [← toksF_blk HK.out]; exact HRR.out)
                  go_wp2
                  go_roundw
                  case rel => exact ⟨k, f + 1, acc, vv, rfl, rfl, hk2, by have := HF.out; omega, by have := HAC.out; omega, HNX.out, HROW.out, HE.out⟩
                  case measure => simp [intOf]; omega
                · have d1 : ((d : Int) != 10) = true := by simpa using (show ¬ (d : Int) = 10 by omega)
                  have d2 : ((d : Int) == 10) = false := by simpa using (show ¬ (d : Int) = 10 by omega)
                  have HNM := Lib.hid (show ∀ j (hj : j < s.length), a ≤ j → j < k + 1 → (s[j]).toNat ≠ 10 from fun j hj h1 h2 => by
                    by_cases e : j = k
                    · subst e; rw [HD.out]; exact h10
                    · exact HNN.out j hj h1 (by omega))
                  clear h10
                  go_wp2
                  go_roundw
                  case rel => exact ⟨k + 1, by omega, by omega, by go_num, HNM.out, by first | rfl | trivial⟩
                  case measure => simp [intOf]; omega
              · obtain rfl : k = s.length := by omega
                have HK := Lib.hid (show a + skipB false (s.drop a) = s.length + skipB false (s.drop s.length) from HCM.out (by first | rfl | trivial) s.length hk1 hk2 HNN.out (fun h => by omega))
                have HNX := Lib.hid (show toksF s (f + 1) s.length acc = R from by rw [← toksF_blk HK.out]; exact HRR.out)
                go_wp2
                go_roundw
                case rel => exact ⟨s.length, f + 1, acc, vv, rfl, rfl, hk2, by have := HF.out; omega, by have := HAC.out; omega, HNX.out, HROW.out, HE.out⟩
                case measure => simp [intOf]; omega
          · have c4 : ((c : Int) == 35) = false := by simpa using (show ¬ (c : Int) = 35 by omega)
            have hb0 : blk s a = a := by unfold blk; rw [HNO.out (by omega) (by omega) (by omega) h35]; rfl
            obtain ⟨⟨T, E⟩, hT⟩ : ∃ T, oneT (s.drop a) (a : Int) = T := ⟨_, rfl⟩
            have HBAD := Lib.hid (fun he : E ≠ 0 => (show R = ([], (a : Int), E) by rw [← HRR.out, toksF_bad (by rw [hb0]; omega) (by rw [hb0]; exact hT) he, hb0]))
            have HGO := Lib.hid (fun he : E = 0 => (show toksF s f (a + T.text.length) (acc ++ [T]) = R by rw [← HRR.out, toksF_go (by rw [hb0]; omega) (by rw [hb0]; exact hT) he, hb0]))
            have HTX := Lib.hid (fun he : E = 0 => (show 1 ≤ T.text.length ∧ a + T.text.length ≤ s.length by
              subst he
              have := oneT_at hlt hT
              exact ⟨this.1, this.2.1⟩))
            have K1 := Lib.hid (fun W => (by have := rfOne_any s a W hs hlt; rw [hT] at this; exact this : Gives Tryz.prog 49 #[sV s, .int .i64 (a : Int)] W (.tuple #[TV T, .int .i64 E])))
            clear hT hb0 HSK HNO HCM hb h35
            obtain ⟨tk, tx, tv, tp⟩ := T
            dsimp only at HGO HTX
            go_wp2_with fail
            refine (K1.out _).mono ?_
            intro w3 hE
            have HE3 := Lib.hid (Ext.trans HE.out hE)
            have HROW3 := Lib.hid (HROW.out.ext hE)
            clear hE
            have HX := Lib.hid (ext_alloc w3 (.cells #[.int .i64 tk, sV tx, .int .i64 tv, .int .i64 tp] tTk))
            by_cases hE0 : E = 0
            · subst hE0
              obtain ⟨hx1, hx2⟩ := HTX.out rfl
              have HG := Lib.hid (HGO.out rfl)
              have HX2 := Lib.hid hx2
              go_upto_region 14 with fail
              obtain ⟨X4, hX4⟩ : ∃ X4, w3.alloc (.cells #[.int .i64 tk, sV tx, .int .i64 tv, .int .i64 tp] 36) = X4 := ⟨_, rfl⟩
              rw [hX4]
              have hb4 := alloc_here w3 (.cells #[.int .i64 tk, sV tx, .int .i64 tv, .int .i64 tp] 36)
              rw [hX4] at hb4
              have HB4 := Lib.hid hb4
              have hE34 : Ext w3 X4 := by rw [← hX4]; exact ext_alloc _ _
              have HE4 := Lib.hid (Ext.trans HE3.out hE34)
              have HROW4 := Lib.hid (HROW3.out.ext hE34)
              have HOB := Lib.hid (show Value.ownBlock vv ≠ some w3.heap.size from fun e => by have := (World.ownsRow.lt HROW3.out _ e).2; omega)
              clear hX4 hb4 hE34
              generalize w3.heap.size = tb at *
              obtain ⟨W0, hW0⟩ : ∃ W0 : World, ({ X4 with drawn := X4.drawn + 1 } : World) = W0 := ⟨_, rfl⟩
              have hrow0 : RowT w.heap.size vv acc W0 := by rw [← hW0]; exact (HROW4.out.ext (show Ext X4 { X4 with drawn := X4.drawn + 1 } from ⟨rfl, rfl, rfl, Nat.le_refl _, fun _ _ => rfl⟩))
              have hE0 : Ext w W0 := by rw [← hW0]; exact Ext.trans HE4.out (show Ext X4 { X4 with drawn := X4.drawn + 1 } from ⟨rfl, rfl, rfl, Nat.le_refl _, fun _ _ => rfl⟩)
              have hb0 : W0.heap[tb]? = some (.cells #[.int .i64 tk, sV tx, .int .i64 tv, .int .i64 tp] 36 (0, 0)) := by rw [← hW0]; exact HB4.out
              obtain ⟨W1, hW1⟩ : ∃ W1, W0.alloc (.cells #[.int .i64 tk, sV tx, .int .i64 tv, .int .i64 tp] 36) = W1 := ⟨_, rfl⟩
              have hE1 : Ext W0 W1 := by rw [← hW1]; exact ext_alloc _ _
              have hk1 := alloc_here W0 (.cells #[.int .i64 tk, sV tx, .int .i64 tv, .int .i64 tp] 36)
              rw [hW1] at hk1
              have hb1 := (hE1.below.block _ (lt_of_block hb0)).trans hb0
              have hrow1 := hrow0.ext hE1
              have htb : vv.ownBlock ≠ some tb := HOB.out
              obtain ⟨v2, W2, hrun, hrow2, hbel2, hkb2⟩ := appT_run w.heap.size vv acc W1 hrow1 ⟨tk, tx, tv, tp⟩ W0.heap.size _ hk1 rfl 31 (by omega) (Nat.le_trans hE0.size hE1.size)
              have hb2 := (hkb2 tb (lt_of_block hb1) htb).trans hb1
              have hcell : ∀ {listed : Array Bool} (W : World), J3 W0 W1 W2 listed W → W.cell? ⟨tb, 0, none⟩ = some (.int .i64 tk) ∧ W.cell? ⟨tb, 1, none⟩ = some (sV tx) ∧ W.cell? ⟨tb, 2, none⟩ = some (.int .i64 tv) ∧ W.cell? ⟨tb, 3, none⟩ = some (.int .i64 tp) := by
                intro listed W hJ
                rcases hJ.cases with rfl | rfl | rfl
                · exact ⟨cell_of hb0 rfl, cell_of hb0 rfl, cell_of hb0 rfl, cell_of hb0 rfl⟩
                · exact ⟨cell_of hb1 rfl, cell_of hb1 rfl, cell_of hb1 rfl, cell_of hb1 rfl⟩
                · exact ⟨cell_of hb2 rfl, cell_of hb2 rfl, cell_of hb2 rfl, cell_of hb2 rfl⟩
              have HROW2 := Lib.hid hrow2
              have HE2 := Lib.hid (show Ext w W2 from Below.trans (Ext.trans hE0 hE1) hbel2)
              refine wp_region_tailj (l1 := [_, _, _, _, _, _, _, _, _, _]) (l2 := [_]) (by kernel_rfl) (fun _ _ => True) (fun _ => trivial) (fun _ => trivial) (fun _ _ => trivial)
                (fun i s W => match i with
                  | 0 => s 0 = vv
                  | 1 => s 1 = .agg #[.int .i64 tk, sV tx, .int .i64 tv, .int .i64 tp]
                  | 2 => s 2 = .slice (some ⟨W0.heap.size, 0, none⟩) 1 1
                  | 3 => s 3 = v2
                  | 4 => s 4 = .int .i64 (a : Int)
                  | 5 => s 5 = .pointer (some ⟨tb, 1, none⟩)
                  | 6 => s 6 = sV tx
                  | 7 => s 7 = .int .i64 (tx.length : Int)
                  | 8 => s 8 = .int .i64 ((a : Int) + (tx.length : Int))
                  | 9 => s 9 = v2
                  | _ => True)
                (J3 W0 W1 W2) (by rw [hW0]; exact J3.init _ _ _ _) (fun i => [i])
                (by
                  intro i s s' W W' h hs _
                  have hs := hs i (by simp)
                  match i, h, hs with
                  | 0, h, hs => exact hs.trans h
                  | 1, h, hs => exact hs.trans h
                  | 2, h, hs => exact hs.trans h
                  | 3, h, hs => exact hs.trans h
                  | 4, h, hs => exact hs.trans h
                  | 5, h, hs => exact hs.trans h
                  | 6, h, hs => exact hs.trans h
                  | 7, h, hs => exact hs.trans h
                  | 8, h, hs => exact hs.trans h
                  | 9, h, hs => exact hs.trans h
                  | i + 10, h, hs => exact trivial)
                (by kernel_rfl) (by kernel_rfl) (by kernel_rfl) 78 rfl (by kernel_rfl) (by kernel_rfl) ?_ ?_
              · intro i op ho listed a' W hA
                match i, ho with
                | 0, ho =>
                  obtain rfl := Option.some.inj ho
                  have e1 : a'.eval (.tmp 5) = vv := hA.keep 5 (by kernel_rfl)
                  have hx := hcell W hA.jnv
                  obtain ⟨x0, x1, x2, x3⟩ := hx
                  refine GoesJ.of (GoesG.value (vv) rfl ?_ ⟨trivial, hA.jnv.other (by decide) (by decide)⟩ (fun s h1 h2 => h1 rfl))
                  simp only [execOp, e1]
                  simp [go_sem, x0, x1, x2, x3]
                | 1, ho =>
                  obtain rfl := Option.some.inj ho
                  have e1 : a'.eval (.tmp 7) = .pointer (some ⟨tb, 0, none⟩) := hA.keep 7 (by kernel_rfl)
                  have hx := hcell W hA.jnv
                  obtain ⟨x0, x1, x2, x3⟩ := hx
                  refine GoesJ.of (GoesG.value (.agg #[.int .i64 tk, sV tx, .int .i64 tv, .int .i64 tp]) rfl ?_ ⟨trivial, hA.jnv.other (by decide) (by decide)⟩ (fun s h1 h2 => h1 rfl))
                  simp only [execOp, e1]
                  simp [go_sem, x0, x1, x2, x3]
                | 2, ho =>
                  obtain rfl := Option.some.inj ho
                  have e1 : a'.eval (.tmp 64) = .agg #[.int .i64 tk, sV tx, .int .i64 tv, .int .i64 tp] := (sv_dst (l := _) rfl).symm.trans (hA.new 1 (by decide) (by kernel_rfl))
                  have hW := hA.jnv.two hA.nl
                  subst W
                  refine GoesJ.of (GoesG.value (W' := W1) (.slice (some ⟨W0.heap.size, 0, none⟩) 1 1) rfl ?_ ⟨trivial, hA.jnv.two' (by rw [hA.lsz]; decide) hA.nl⟩ (fun s h1 h2 => h1 rfl))
                  rw [← hW1]
                  simp [go_sem] at e1
                  simp [execOp, go_sem, e1]
                | 3, ho =>
                  obtain rfl := Option.some.inj ho
                  have e1 : a'.eval (.tmp 63) = vv := (sv_dst (l := _) rfl).symm.trans (hA.new 0 (by decide) (by kernel_rfl))
                  have e2 : a'.eval (.tmp 65) = .slice (some ⟨W0.heap.size, 0, none⟩) 1 1 := (sv_dst (l := _) rfl).symm.trans (hA.new 2 (by decide) (by kernel_rfl))
                  have hW := hA.jnv.three (hA.lanc 2 (by kernel_rfl)) hA.nl
                  subst W
                  exact GoesJ.of (GoesG.appendT rfl (.tmp 63) (.tmp 65) 31 rfl vv v2 _ e1 e2 hrun ⟨trivial, hA.jnv.three' (by rw [hA.lsz]; decide) (hA.lanc 2 (by kernel_rfl))⟩ (fun s h1 h2 => h1 rfl))
                | 4, ho =>
                  obtain rfl := Option.some.inj ho
                  have e1 : a'.eval (.tmp 6) = .int .i64 (a : Int) := hA.keep 6 (by kernel_rfl)
                  have hx := hcell W hA.jnv
                  obtain ⟨x0, x1, x2, x3⟩ := hx
                  refine GoesJ.of (GoesG.value (.int .i64 (a : Int)) rfl ?_ ⟨trivial, hA.jnv.other (by decide) (by decide)⟩ (fun s h1 h2 => h1 rfl))
                  simp only [execOp, e1]
                  simp [go_sem, x0, x1, x2, x3]
                | 5, ho =>
                  obtain rfl := Option.some.inj ho
                  have e1 : a'.eval (.tmp 7) = .pointer (some ⟨tb, 0, none⟩) := hA.keep 7 (by kernel_rfl)
                  have hx := hcell W hA.jnv
                  obtain ⟨x0, x1, x2, x3⟩ := hx
                  refine GoesJ.of (GoesG.value (.pointer (some ⟨tb, 1, none⟩)) rfl ?_ ⟨trivial, hA.jnv.other (by decide) (by decide)⟩ (fun s h1 h2 => h1 rfl))
                  simp only [execOp, e1]
                  simp [go_sem, x0, x1, x2, x3]
                | 6, ho =>
                  obtain rfl := Option.some.inj ho
                  have e1 : a'.eval (.tmp 68) = .pointer (some ⟨tb, 1, none⟩) := (sv_dst (l := _) rfl).symm.trans (hA.new 5 (by decide) (by kernel_rfl))
                  have hx := hcell W hA.jnv
                  obtain ⟨x0, x1, x2, x3⟩ := hx
                  refine GoesJ.of (GoesG.value (sV tx) rfl ?_ ⟨trivial, hA.jnv.other (by decide) (by decide)⟩ (fun s h1 h2 => h1 rfl))
                  simp only [execOp, e1]
                  simp [go_sem, x0, x1, x2, x3]
                | 7, ho =>
                  obtain rfl := Option.some.inj ho
                  have e1 : a'.eval (.tmp 69) = sV tx := (sv_dst (l := _) rfl).symm.trans (hA.new 6 (by decide) (by kernel_rfl))
                  have hx := hcell W hA.jnv
                  obtain ⟨x0, x1, x2, x3⟩ := hx
                  refine GoesJ.of (GoesG.value (.int .i64 (tx.length : Int)) rfl ?_ ⟨trivial, hA.jnv.other (by decide) (by decide)⟩ (fun s h1 h2 => h1 rfl))
                  simp [go_sem] at e1
                  simp [execOp, go_sem, e1]
                | 8, ho =>
                  obtain rfl := Option.some.inj ho
                  have e1 : a'.eval (.tmp 67) = .int .i64 (a : Int) := (sv_dst (l := _) rfl).symm.trans (hA.new 4 (by decide) (by kernel_rfl))
                  have e2 : a'.eval (.tmp 70) = .int .i64 (tx.length : Int) := (sv_dst (l := _) rfl).symm.trans (hA.new 7 (by decide) (by kernel_rfl))
                  have hx := hcell W hA.jnv
                  obtain ⟨x0, x1, x2, x3⟩ := hx
                  refine GoesJ.of (GoesG.value (.int .i64 ((a : Int) + (tx.length : Int))) rfl ?_ ⟨trivial, hA.jnv.other (by decide) (by decide)⟩ (fun s h1 h2 => h1 rfl))
                  simp only [execOp, e1, e2]
                  simp [go_sem]
                  have h9 := HX2.out
                  simp [IntKind.wrap, IntKind.min, IntKind.max, IntKind.signed, IntKind.bits, wrap64]
                  omega
                | 9, ho =>
                  obtain rfl := Option.some.inj ho
                  have e1 : a'.eval (.tmp 66) = v2 := (sv_dst (l := _) rfl).symm.trans (hA.new 3 (by decide) (by kernel_rfl))
                  have hx := hcell W hA.jnv
                  obtain ⟨x0, x1, x2, x3⟩ := hx
                  refine GoesJ.of (GoesG.value (v2) rfl ?_ ⟨trivial, hA.jnv.other (by decide) (by decide)⟩ (fun s h1 h2 => h1 rfl))
                  simp only [execOp, e1]
                  simp [go_sem, x0, x1, x2, x3]
                | i + 10, ho => cases ho
              · intro vs listed wx hvs _ hJ hall hΦ
                have hW := hJ.fin (hall 3 (by decide))
                subst wx
                obtain ⟨y0, y1, y2, y3, y4, y5, y6, y7, y8, y9, rfl⟩ : ∃ y0 y1 y2 y3 y4 y5 y6 y7 y8 y9, vs = y0 :: y1 :: y2 :: y3 :: y4 :: y5 :: y6 :: y7 :: y8 :: y9 :: [] := by
                  match vs, hvs with
                  | y0 :: y1 :: y2 :: y3 :: y4 :: y5 :: y6 :: y7 :: y8 :: y9 :: [], _ => exact ⟨y0, y1, y2, y3, y4, y5, y6, y7, y8, y9, rfl⟩
                have q0 : y0 = vv := hΦ 0 (by decide)
                have q1 : y1 = .agg #[.int .i64 tk, sV tx, .int .i64 tv, .int .i64 tp] := hΦ 1 (by decide)
                have q2 : y2 = .slice (some ⟨W0.heap.size, 0, none⟩) 1 1 := hΦ 2 (by decide)
                have q3 : y3 = v2 := hΦ 3 (by decide)
                have q4 : y4 = .int .i64 (a : Int) := hΦ 4 (by decide)
                have q5 : y5 = .pointer (some ⟨tb, 1, none⟩) := hΦ 5 (by decide)
                have q6 : y6 = sV tx := hΦ 6 (by decide)
                have q7 : y7 = .int .i64 (tx.length : Int) := hΦ 7 (by decide)
                have q8 : y8 = .int .i64 ((a : Int) + (tx.length : Int)) := hΦ 8 (by decide)
                have q9 : y9 = v2 := hΦ 9 (by decide)
                subst q0
                subst q1
                subst q2
                subst q3
                subst q4
                subst q5
                subst q6
                subst q7
                subst q8
                subst q9
                clear hΦ hvs hall hJ
                simp only [putAll, Act.put, List.setIfInBounds_toArray, List.set_cons_succ, List.set_cons_zero]
                go_wp2
                go_roundw
                case rel => exact ⟨a + tx.length, f, acc ++ [⟨tk, tx, tv, tp⟩], _, rfl, by go_num, HX2.out, by have := HF.out; omega, by simp only [List.length_append, List.length_singleton]; have := HAC.out; omega, HG.out, HROW2.out, HE2.out⟩
                case measure => simp [intOf]; omega
            · have HG := Lib.hid (HBAD.out hE0)
              have h9 : ¬ (E = 0) := hE0
              go_wp2
              exact bodyPost_ret (v := .tuple #[.slice (some ⟨w3.heap.size + 1, 0, none⟩) 0 0, .int .i64 (a : Int), .int .i64 E]) (by simp [results, Tryz.f21, go_sem]) rfl ⟨_, by rw [HG.out], by rw [HG.out]; have := HNIL.out _ (Ext.trans HE3.out HX.out); rw [World.size_alloc] at this; exact this, Ext.trans (Ext.trans HE3.out HX.out) (ext_alloc _ _)⟩
      · obtain rfl : a = s.length := by omega
        have HG := Lib.hid (show R = (acc ++ [⟨0, [], 0, s.length⟩], 0, 0) by rw [← HRR.out, toksF_end (by unfold blk; omega)])
        have HROW1 := Lib.hid HROW.out
        have hsz1 : w.heap.size ≤ wr.heap.size := hwz
        go_wp2_with (at_builtin; go_loud (refine wp_appT (by rfl) _ _ (by rfl) w.heap.size vv acc (by rfl) _ HROW1.out ⟨0, [], 0, s.length⟩ _ (by rfl) _ (by rfl) rfl (by omega) hsz1 ?_); intro v5n w5 hrow5 hbel5 hkb5)
        exact bodyPost_ret (v := .tuple #[v5n, .int .i64 0, .int .i64 0]) (by simp [results, Tryz.f21, go_sem]) rfl ⟨v5n, by rw [HG.out], by rw [HG.out]; exact hrow5, Below.trans HE.out hbel5⟩
end Go.Proofs.YtmokejjndkibhaaGreatDoor
