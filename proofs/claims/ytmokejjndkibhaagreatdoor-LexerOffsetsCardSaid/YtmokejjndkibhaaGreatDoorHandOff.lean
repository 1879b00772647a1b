/- The statement LexerOffsetsCardSaid: for every input the law returns true, and the arguments read as before; the tables of the library that it lists are tied to the text. The frame round the walk of the law. (With it: What stands between tokens; the law's separator.; LexerOffsets: the tokens stand at their offsets.) -/
import Derived.Lib.IndexMore
import Derived.Stop.LaidErr
import Derived.Test.YtmokejjndkibhaaGreatDoorCards
import Derived.Test.YtmokejjndkibhaaGreatDoorTie
import Derived.WalkKit
import Derived.ProofKit
import Derived.OpenShut
import Derived.ShutString
import Derived.ChangeOld
import Derived.Below
import Derived.Deep.DeepHandedRow
import Derived.Lib.LaidTab
import Derived.Shelf.Vars
import Derived.Test.YtmokejjndkibhaaGreatDoorPart10
import Derived.Test.YtmokejjndkibhaaGreatDoorPart7
import Derived.Test.YtmokejjndkibhaaGreatDoorPart11

namespace Go.Proofs.YtmokejjndkibhaaGreatDoor
open Go.RowKit Go.Shelf Ex
set_option linter.unusedVariables false
set_option linter.unusedSimpArgs false
attribute [local go_sem] sB_extract

def sepL (l : List UInt8) : List UInt8 := l.take (skipB false l)
def comL (l : List UInt8) : List UInt8 := l.take (skipB true l)
theorem sepL_cons {c : UInt8} {l : List UInt8} (h : c.toNat = 10 ∨ c.toNat = 32 ∨ c.toNat = 9) : sepL (c :: l) = c :: sepL l := by
  have h1 : skipB false (c :: l) = skipB false l + 1 := by
    rcases h with h | h | h
    · simp [skipB, h]; omega
    · simp [skipB, h]; omega
    · simp [skipB, h]; omega
  unfold sepL
  rw [h1, List.take_succ_cons]
theorem sepL_com {c : UInt8} {l : List UInt8} (h : c.toNat = 35) : sepL (c :: l) = c :: comL l := by
  have h1 : skipB false (c :: l) = skipB true l + 1 := by
    simp [skipB, h]; omega
  unfold sepL comL
  rw [h1, List.take_succ_cons]
theorem sepL_no {c : UInt8} {l : List UInt8} (h : ¬ (c.toNat = 10 ∨ c.toNat = 32 ∨ c.toNat = 9 ∨ c.toNat = 35)) : sepL (c :: l) = [] := by
  have h1 : skipB false (c :: l) = 0 := by
    unfold skipB
    rw [if_neg (by omega), if_neg (by decide), if_neg (by omega), if_neg (by omega)]
  unfold sepL
  rw [h1, List.take_zero]
theorem cut_ne {c : UInt8} (h : c ≠ 10) (x : List UInt8) : (Lib.cut (c :: x) [10]).2.1 = (Lib.cut x [10]).2.1 := by
  have hp : ([10] : List UInt8).isPrefixOf (c :: x) = false := by simp [List.isPrefixOf]; exact fun e => h e.symm
  have hi : Lib.index (c :: x) [10] = if Lib.index x [10] == -1 then -1 else Lib.index x [10] + 1 := by
    show (if ([10] : List UInt8).isPrefixOf (c :: x) then (0 : Int) else _) = _
    rw [hp]; rfl
  unfold Lib.cut
  rw [hi]
  rcases Lib.index_spec x [10] with ⟨h1, _⟩ | ⟨i, h1, _⟩
  · rw [h1]; simp
  · rw [h1]
    have e : ((i : Int) == -1) = false := by simp
    rw [e]
    simp only [Bool.false_eq_true, if_false]
    rw [if_pos (by omega), if_pos (by omega)]
    rw [show ((i : Int) + 1).toNat = i + 1 by omega, show ((i : Int)).toNat = i by omega]
    rfl
theorem cut_com : ∀ l : List UInt8, ∃ y, (Lib.cut (comL l) [10]).2.1 = sepL y
  | [] => ⟨[], rfl⟩
  | c :: l => by
    by_cases h : c = 10
    · subst h
      refine ⟨l, ?_⟩
      have h1 : comL (10 :: l) = 10 :: sepL l := by
        have : skipB true (10 :: l) = skipB false l + 1 := by simp [skipB]; omega
        unfold comL sepL
        rw [this, List.take_succ_cons]
      rw [h1]
      have hi : Lib.index (10 :: sepL l) [10] = 0 := by
        show (if ([10] : List UInt8).isPrefixOf (10 :: sepL l) then (0 : Int) else _) = 0
        rw [if_pos (by simp [List.isPrefixOf])]
      unfold Lib.cut
      rw [hi]
      rfl
    · have hn : ¬ c.toNat = 10 := fun e => h (UInt8.toNat_inj.1 e)
      have h1 : comL (c :: l) = c :: comL l := by
        have : skipB true (c :: l) = skipB true l + 1 := by simp [skipB, hn]; omega
        unfold comL
        rw [this, List.take_succ_cons]
      obtain ⟨y, hy⟩ := cut_com l
      exact ⟨y, by rw [h1, cut_ne h, hy]⟩
theorem cut_len (x : List UInt8) : (Lib.cut x [10]).2.1.length ≤ x.length := by
  unfold Lib.cut
  split <;> simp
theorem sepL_cases (l : List UInt8) : sepL l = [] ∨ (∃ c y, (c = 10 ∨ c = 32 ∨ c = 9) ∧ sepL l = c :: sepL y) ∨ (∃ r y, sepL l = 35 :: r ∧ (Lib.cut r [10]).2.1 = sepL y) := by
  cases l with
  | nil => exact .inl rfl
  | cons c l =>
    by_cases h1 : c.toNat = 10 ∨ c.toNat = 32 ∨ c.toNat = 9
    · refine .inr (.inl ⟨c, l, ?_, sepL_cons h1⟩)
      rcases h1 with h | h | h
      · exact .inl (UInt8.toNat_inj.1 h)
      · exact .inr (.inl (UInt8.toNat_inj.1 h))
      · exact .inr (.inr (UInt8.toNat_inj.1 h))
    · by_cases h2 : c.toNat = 35
      · obtain ⟨y, hy⟩ := cut_com l
        exact .inr (.inr ⟨comL l, y, by rw [sepL_com h2, (UInt8.toNat_inj.1 h2 : c = 35)], hy⟩)
      · exact .inl (sepL_no (by omega))
theorem sepL_drop (s : List UInt8) (a : Nat) : (s.take (blk s a)).drop a = sepL (s.drop a) := by
  unfold blk sepL
  rw [List.take_drop]

set_option maxRecDepth 100000 in
set_option maxHeartbeats 2000000 in
theorem separator_any (l : List UInt8) (w : World) (hl : (sepL l).length ≤ 100000) (hm : MaxL w) : Calls Tryz.prog 20 #[sV (sepL l)] w fun e w' => e = .returned (.bool true) ∧ ∃ n, w' = w.drewN n := by
  have HM := Lib.hid (fun n => (hm.ext (Ext.drewN' (n := n) (Below.refl _ w)) : MaxL (w.drewN n)))
  clear hm
  go_enter Tryz.func20, Tryz.ntmps20
  go_wp2
  go_loopw [0] (fun v wr => ∃ x n, v = sV (sepL x) ∧ (sepL x).length ≤ 100000 ∧ wr = w.drewN n) (fun v _ => match v with | .string b => b.size | _ => 0)
  case atStart => exact ⟨l, 0, rfl, hl, rfl⟩
  case round =>
    obtain ⟨x, n, rfl, hx, rfl⟩ := hrel
    rcases sepL_cases x with h | ⟨c, y, hc, h⟩ | ⟨r, y, h, hy⟩
    · rw [h]
      go_wp2
      go_ret
      exact ⟨rfl, n, rfl⟩
    · rw [h] at hx ⊢
      obtain ⟨z, hz⟩ : ∃ z, sepL y = z := ⟨_, rfl⟩
      rw [hz] at hx ⊢
      have HZ := Lib.hid hz
      have HX := Lib.hid hx
      have K1 := Lib.hid (fun W => (show Calls Tryz.prog 47 #[sV (c :: z), .string ⟨#[35]⟩] W fun e w' => e = .returned (.tuple #[sV (c :: z), .bool false]) ∧ w' = W from by
        have := Tryz.strings_CutPrefix (sB (c :: z)) ⟨#[35]⟩ W
        have hp : Lib.hasPrefix (sB (c :: z)).data.toList [35] = false := by
          rw [sB_data]
          unfold Lib.hasPrefix
          rcases hc with rfl | rfl | rfl <;> rfl
        have ht : Lib.trimPrefix (sB (c :: z)).data.toList [35] = c :: z := by
          unfold Lib.trimPrefix; rw [hp, sB_data]; rfl
        rw [show (ByteArray.mk #[35]).data.toList = [35] from rfl, hp, ht] at this
        exact this))
      have hne : (sB (c :: z) == sB []) = false := by rw [sB_beq]; rfl
      have hsz := sB_size (c :: z)
      have hlen : (c :: z).length = z.length + 1 := rfl
      have hx1 : (sB (c :: z)).extract 1 (c :: z).length = sB z := by rw [sB_extract, List.take_length]; rfl
      clear hz hx h
      rcases hc with rfl | rfl | rfl
      · go_wp2_with fail
        refine (K1.out _).mono ?_
        rintro _ _ ⟨rfl, rfl⟩
        go_wp2
        go_roundw
        case rel => exact ⟨y, n, by rw [HZ.out], by have h := HX.out; rw [List.length_cons] at h; have h2 := HZ.out; rw [h2]; omega, rfl⟩
        case measure => simp [hsz, sB_size]
      · go_wp2_with fail
        refine (K1.out _).mono ?_
        rintro _ _ ⟨rfl, rfl⟩
        go_wp2
        go_roundw
        case rel => exact ⟨y, n, by rw [HZ.out], by have h := HX.out; rw [List.length_cons] at h; have h2 := HZ.out; rw [h2]; omega, rfl⟩
        case measure => simp [hsz, sB_size]
      · go_wp2_with fail
        refine (K1.out _).mono ?_
        rintro _ _ ⟨rfl, rfl⟩
        go_wp2
        go_roundw
        case rel => exact ⟨y, n, by rw [HZ.out], by have h := HX.out; rw [List.length_cons] at h; have h2 := HZ.out; rw [h2]; omega, rfl⟩
        case measure => simp [hsz, sB_size]
    · rw [h] at hx ⊢
      obtain ⟨m, hm⟩ := HM.out n
      have hcl := cut_len r
      have hrl : (35 :: r).length = r.length + 1 := rfl
      have K1 := Lib.hid (fun W => (show Calls Tryz.prog 47 #[sV (35 :: r), .string ⟨#[35]⟩] W fun e w' => e = .returned (.tuple #[sV r, .bool true]) ∧ w' = W from by
        have := Tryz.strings_CutPrefix (sB (35 :: r)) ⟨#[35]⟩ W
        have hp : Lib.hasPrefix (sB (35 :: r)).data.toList [35] = true := by rw [sB_data]; unfold Lib.hasPrefix; simp [List.isPrefixOf]
        have ht : Lib.trimPrefix (sB (35 :: r)).data.toList [35] = r := by
          unfold Lib.trimPrefix; rw [hp, sB_data]; rfl
        rw [show (ByteArray.mk #[35]).data.toList = [35] from rfl, hp, ht] at this
        exact this))
      have K2 := Lib.hid (show Calls Tryz.prog 48 #[sV r, .string ⟨#[10]⟩] (w.drewN n) fun e w' => ∃ u b, e = .returned (.tuple #[.string u, sV (sepL y), .bool b]) ∧ ∃ k, w' = w.drewN (n + k) from by
        have := Tryz.strings_Cut (sB r) ⟨#[10]⟩ m (w.drewN n) (by rw [sB_size]; omega) hm
        rw [sB_data, show (ByteArray.mk #[10]).data.toList = [10] from rfl, hy] at this
        refine this.mono ?_
        rintro e w' ⟨rfl, k, rfl⟩
        exact ⟨_, _, rfl, k, World.drewN_drewN _ _ _⟩)
      have hne : (sB (35 :: r) == sB []) = false := by rw [sB_beq]; rfl
      have HY := Lib.hid (show (sepL y).length ≤ r.length from by rw [← hy]; exact hcl)
      have hsz := sB_size (35 :: r)
      have HX := Lib.hid hx
      have HRL := Lib.hid hrl
      clear hy h hm hcl hx hrl
      go_wp2_with fail
      refine (K1.out _).mono ?_
      rintro _ _ ⟨rfl, rfl⟩
      go_wp2_with fail
      refine (show Calls _ _ _ _ _ from K2.out).mono ?_
      rintro _ _ ⟨u, b, rfl, k, rfl⟩
      go_wp2
      go_roundw
      case rel => exact ⟨y, n + k, rfl, by have h1 := HX.out; have h2 := HY.out; have h3 := HRL.out; omega, rfl⟩
      case measure =>
        have h2 := HY.out; have h3 := HRL.out
        simp [hsz, sB_size]; omega

/-- where the tokens before place i end -/
def endN : Nat → List Tk → Nat → Nat
  | a, _, 0 => a
  | a, [], _ + 1 => a
  | _, t :: l, i + 1 => endN (t.pos.toNat + t.text.length) l i
theorem endN_succ : ∀ (a : Nat) (l : List Tk) (i : Nat) (h : i < l.length), endN a l (i + 1) = (l[i]).pos.toNat + (l[i]).text.length
  | a, [], i, h => by cases h
  | a, t :: l, 0, h => by cases l <;> rfl
  | a, t :: l, i + 1, h => by
    have := endN_succ (t.pos.toNat + t.text.length) l i (by simpa using h)
    simpa [endN] using this
theorem Toks.off {s : List UInt8} {a : Nat} {l : List Tk} {p e : Int} (h : Toks s a l p e) : e = 0 → a ≤ s.length → 1 ≤ l.length ∧ endN a l l.length = s.length ∧ ∀ i (hi : i < l.length), ∃ b k : Nat, endN a l i = b ∧ (l[i]).pos = (k : Int) ∧ b ≤ k ∧ k ≤ s.length ∧ (l[i]).text = (s.drop k).take (l[i]).text.length ∧ k + (l[i]).text.length ≤ s.length ∧ (s.take k).drop b = sepL (s.drop b) ∧
    ((i + 1 = l.length ∧ (l[i]).kind = 0 ∧ (l[i]).text = []) ∨ (i + 1 < l.length ∧ (l[i]).kind ≠ 0 ∧ (l[i]).text ≠ [])) := by
  induction h with
  | @fin a h =>
    intro _ ha
    have hb := blk_le (s := s) (a := a) ha
    have hb2 : blk s a = s.length := by omega
    refine ⟨by simp, by simp [endN], fun i hi => ?_⟩
    obtain rfl : i = 0 := by simpa using hi
    have := sepL_drop s a
    rw [hb2] at this
    exact ⟨a, s.length, rfl, rfl, by omega, Nat.le_refl _, by simp, by simp, this, .inl ⟨rfl, rfl, rfl⟩⟩
  | bad h ht h0 => intro he; exact absurd he h0
  | @cons a t l h ht h1 ih =>
    intro _ ha
    obtain ⟨g1, g2, g3, g4, g5⟩ := oneT_at h ht
    obtain ⟨i1, i2, i3⟩ := ih rfl g2
    have hp : t.pos.toNat = blk s a := by rw [g4]; rfl
    refine ⟨by simp, ?_, fun i hi => ?_⟩
    · show endN (t.pos.toNat + t.text.length) l l.length = _
      rw [hp]; exact i2
    · cases i with
      | zero =>
        have hle : a ≤ blk s a := by unfold blk; omega
        refine ⟨a, blk s a, by cases l <;> rfl, g4, hle, by omega, g3, g2, sepL_drop s a, .inr ⟨by simp; omega, g5, ?_⟩⟩
        intro e
        have e' : t.text = [] := e
        rw [e'] at g1; simp at g1
      | succ i =>
        obtain ⟨b, k, j1, j2, j3, j4, j5, j6, j7, j8⟩ := i3 i (by simpa using hi)
        refine ⟨b, k, ?_, j2, j3, j4, j5, j6, j7, ?_⟩
        · show endN (t.pos.toNat + t.text.length) l i = _
          rw [hp]; exact j1
        · rcases j8 with ⟨q1, q2, q3⟩ | ⟨q1, q2, q3⟩
          · exact .inl ⟨by simp; omega, q2, q3⟩
          · exact .inr ⟨by simp; omega, q2, q3⟩
  | later h ht h0 h1 ih => intro he; exact absurd he h0
end Go.Proofs.YtmokejjndkibhaaGreatDoor

namespace Go.Proofs.YtmokejjndkibhaaGreatDoor
open Go.RowKit Go.Shelf Ex
set_option linter.unusedVariables false
set_option linter.unusedSimpArgs false
attribute [local go_sem] sB_extract

theorem pre_at {s : List UInt8} {k n : Nat} {t : List UInt8} (h : t = (s.drop k).take n) : Lib.hasPrefix (s.drop k) t = true := by
  unfold Lib.hasPrefix
  rw [h]
  exact List.isPrefixOf_iff_prefix.2 (List.take_prefix _ _)
theorem toks_len {s : List UInt8} (hs : s.length ≤ 4000) : (toksR s).1.length ≤ 4001 := by
  by_cases he : (toksR s).2.2 = 0
  · obtain ⟨_, _, ts, h1, h2, _⟩ := toksR_form he
    rw [h1]; simp; omega
  · have h := toksR_toks s hs
    have : (toksR s).1 = [] := by
      generalize (toksR s).1 = l at *
      generalize (toksR s).2.1 = p at *
      generalize (toksR s).2.2 = e at *
      cases h <;> first | rfl | exact absurd rfl he
    rw [this]; simp
theorem toks_nil {s : List UInt8} (hs : s.length ≤ 4000) (he : (toksR s).2.2 ≠ 0) : (toksR s).1 = [] := by
  have h := toksR_toks s hs
  generalize (toksR s).1 = l at *
  generalize (toksR s).2.1 = p at *
  generalize (toksR s).2.2 = e at *
  cases h <;> first | rfl | exact absurd rfl he

set_option maxRecDepth 100000 in
set_option maxHeartbeats 4000000 in
theorem lexerOffsets_walk (a0 : ByteArray) (w : World) (h0 : a0.size ≤ 140737488351232) (hTab : TabW w) (hM : MaxL w) : Gives Tryz.prog 6 #[.string a0] w (.bool true) := by
  obtain ⟨s, rfl⟩ := sB_of a0
  have hsz := sB_size s
  have KA := Lib.hid (fun W (hW : Ext w W) => lxAwake_any W (hTab.below hW) (hM.ext hW))
  unfold Gives
  by_cases hl : 400 < s.length
  · clear hTab hM
    go_enter Tryz.func6, Tryz.ntmps6
    go_wp2_with fail
    refine (KA.out _ (Below.refl _ _)).mono ?_
    intro w1 hE
    go_wp2
    go_ret
    exact ⟨rfl, hE⟩
  · have KT := Lib.hid (Tokens_any s w (by omega))
    by_cases he : (toksR s).2.2 = 0
    · have hT := toksR_toks s (by omega)
      have hTL := toks_len (s := s) (by omega)
      rw [he] at KT hT
      have hO := hT.off rfl (Nat.zero_le _)
      generalize (toksR s).2.1 = at0 at *
      generalize (toksR s).1 = l at *
      obtain ⟨n, hn⟩ : ∃ n, l.length = n := ⟨_, rfl⟩
      obtain ⟨hO1, hO2, hO3⟩ := hO
      rw [hn] at hO1 hO2 hTL
      have HO2 := Lib.hid hO2
      have HO3 := Lib.hid hO3
      have HN := Lib.hid hn
      have KS := Lib.hid (fun (x : List UInt8) (hx : (sepL x).length ≤ 100000) W (hW : Ext w W) => separator_any x W hx (hM.ext hW))
      have HS := Lib.hid (endN_succ 0 l)
      clear hT hO2 hO3 hTab hM hn he
      go_enter Tryz.func6, Tryz.ntmps6
      go_wp2_with fail
      refine (show Calls _ _ _ _ _ from KT.out).mono ?_
      rintro _ w1 ⟨v, rfl, hR, hE1⟩
      obtain ⟨pr, cr, rfl, hP, hcap⟩ := hR.at
      have HP := Lib.hid (fun W (hW : Ext w1 W) => hP.ext hW)
      have HE1 := Lib.hid hE1
      rw [HN.out] at hcap
      rw [HN.out]
      clear hR hP hE1
      go_wp2
      go_loopw [30, 6] (fun i e wr => ∃ j : Nat, j ≤ n ∧ i = .int .i64 (j : Int) ∧ e = .int .i64 ((endN 0 l j : Nat) : Int) ∧ Ext w1 wr) (fun i _ _ => n - (intOf i).toNat)
      case atStart => exact ⟨0, Nat.zero_le _, rfl, by cases l <;> rfl, Below.refl _ _⟩
      case round =>
        obtain ⟨j, hj, rfl, rfl, hE⟩ := hrel
        have HE := Lib.hid hE
        clear hE
        by_cases hlt : j < n
        · have HJ := Lib.hid (show j < l.length from by rw [HN.out]; exact hlt)
          obtain ⟨b, k, g1, g2, g3, g4, g5, g6, g7, g8⟩ := HO3.out j HJ.out
          have hs1 := HS.out j HJ.out
          rw [g2] at hs1
          rw [g1]
          obtain ⟨bb, oo, hp, c0, c1, c2, c3⟩ := HP.out wr HE.out j HJ.out
          subst hp
          rw [g2] at c3
          have hpre := pre_at g5
          generalize (l[j]'HJ.out).kind = tk at *
          generalize (l[j]'HJ.out).text = tx at *
          generalize (l[j]'HJ.out).val = tv at *
          rw [HN.out] at g8
          have htz := sB_size tx
          have HS1 := Lib.hid (show endN 0 l (j + 1) = k + tx.length from hs1)
          have K1 := Lib.hid (fun W => (show Calls Tryz.prog 19 #[sV (s.drop k), sV tx] W fun e w' => e = .returned (.bool true) ∧ w' = W from by
            have := Tryz.strings_HasPrefix (sB (s.drop k)) (sB tx) W
            rw [sB_data, sB_data, hpre] at this
            exact this))
          have hsl : (sepL (s.drop b)).length ≤ 100000 := by rw [← g7]; simp; omega
          have K2 := Lib.hid (fun W (hW : Ext w1 W) (n : Nat) => (show Calls Tryz.prog 20 #[sV ((s.take k).drop b)] (W.drewN n) fun e w' => e = .returned (.bool true) ∧ ∃ m, w' = W.drewN m from by
            rw [g7]
            refine (KS.out (s.drop b) hsl (W.drewN n) (Ext.trans HE1.out (Ext.drewN' hW))).mono ?_
            rintro e w' ⟨rfl, m, rfl⟩
            exact ⟨rfl, n + m, World.drewN_drewN _ _ _⟩))
          have HX2 := Lib.hid (Ext.trans HE.out (ext_alloc wr (.cells #[.int .i64 tk, sV tx, .int .i64 tv, .int .i64 (k : Int)] 36)))
          have hb2 := alloc_here wr (.cells #[.int .i64 tk, sV tx, .int .i64 tv, .int .i64 (k : Int)] 36)
          have z0 := cell_of (i := 0) hb2 rfl
          have z1 := cell_of (i := 1) hb2 rfl
          have z2 := cell_of (i := 2) hb2 rfl
          have z3 := cell_of (i := 3) hb2 rfl
          clear hb2 g1 g5 g7 hs1 hpre hsl
          have hk0 : (0 : Int) ≤ (j : Int) := by omega
          have hkn : (j : Int) < (n : Int) := by omega
          rcases g8 with ⟨q1, rfl, rfl⟩ | ⟨q1, q2, q3⟩
          · have hlast : ((j : Int) == (n : Int) - 1) = true := by simpa using (show (j : Int) = (n : Int) - 1 by omega)
            go_wp2
            go_quiet (first
              | (go_at_call 19; exact Calls.quiet_of_same ((K1.out _).mono fun e w3 h => ⟨h.1, h.2⟩))
              | (go_at_call 20; exact K2.out _ HX2.out _))
            go_wp2
            go_roundw
            case rel => exact ⟨j + 1, by omega, by go_num, by rw [HS1.out]; go_num, Ext.drewN' HX2.out⟩
            case measure => simp [intOf]; omega
          · have hlast : ((j : Int) == (n : Int) - 1) = false := by simpa using (show ¬ (j : Int) = (n : Int) - 1 by omega)
            have hkk : (tk == 0) = false := by simpa using q2
            have htt : (sB tx == sB []) = false := by rw [sB_beq]; simpa using q3
            have hemp : tx.isEmpty = false := by cases tx with
              | nil => exact absurd rfl q3
              | cons _ _ => rfl
            clear q2 q3
            go_wp2
            go_quiet (first
              | (go_at_call 19; exact Calls.quiet_of_same ((K1.out _).mono fun e w3 h => ⟨h.1, h.2⟩))
              | (go_at_call 20; exact K2.out _ HX2.out _))
            go_wp2
            go_roundw
            case rel => exact ⟨j + 1, by omega, by go_num, by rw [HS1.out]; go_num, Ext.drewN' HX2.out⟩
            case measure => simp [intOf]; omega
        · obtain rfl : j = n := by omega
          have hend := HO2.out
          rw [hend]
          have hj0 : (0 : Int) < (j : Int) := by omega
          go_wp2_with fail
          refine (KA.out _ (Ext.trans HE1.out HE.out)).mono ?_
          intro w6 hE6
          have HE6 := Lib.hid (Ext.trans (Ext.trans HE1.out HE.out) hE6)
          clear hE6
          go_wp2
          go_ret
          exact ⟨rfl, HE6.out⟩
    · have hnil := toks_nil (s := s) (by omega) he
      rw [hnil] at KT
      have g1 : ((toksR s).2.2 == 0) = false := by simpa using he
      have g2 : ((toksR s).2.2 != 0) = true := by simpa using he
      clear hTab hM he hnil
      generalize (toksR s).2.1 = at0 at *
      generalize (toksR s).2.2 = e1 at *
      go_enter Tryz.func6, Tryz.ntmps6
      go_wp2_with fail
      refine (show Calls _ _ _ _ _ from KT.out).mono ?_
      rintro _ w1 ⟨v, rfl, hR, hE1⟩
      obtain ⟨pr, cr, rfl, hP, hcap⟩ := hR.at
      have HE1 := Lib.hid hE1
      clear hR hP hE1
      go_wp2_with fail
      refine (KA.out _ HE1.out).mono ?_
      intro w6 hE6
      have HE6 := Lib.hid (Ext.trans HE1.out hE6)
      clear hE6
      go_wp2
      go_ret
      exact ⟨rfl, HE6.out⟩
end Go.Proofs.YtmokejjndkibhaaGreatDoor

namespace Go.Proofs.YtmokejjndkibhaaGreatDoor.lexerOffsets
open Go.ChangeShapes Go.WideShapes Go.ChangeAt Go.RowKit
open Go.ChangeMaps (open_string shut_string)
set_option linter.unusedVariables false

theorem own : ownKnob Tryz.prog.godebug = none := by kernel_rfl
theorem laidOut : laidOutB Tryz.prog = true := by kernel_rfl
/-- the cells of a datum of plain values -/
def flat : Nat → DataW Unit → List Value
  | _, .lit l => [l.value]
  | n + 1, .agg ps => ps.flatMap (flat n)
  | _, _ => []
/-- a world for the witness: the settled one, the listed tables holding what the text lays -/
def lay (d : DataW Unit) : Obj → Obj
  | .cells _ t frozen => .cells (flat 4 d).toArray t frozen
  | o => o
noncomputable def laidWorld (os : Os) : World :=
  { World.holding Tryz.prog os ⟨#[], #[], []⟩ with heap := ((((World.holding Tryz.prog os ⟨#[], #[], []⟩).heap.modify 2 (lay Rows.laid_math_bits_deBruijn32tab)).modify 3 (lay Rows.laid_math_bits_deBruijn64tab)).modify 1 (lay Rows.laid_internal_strconv_uint64pow10)) }
theorem laid_met (os : Os) : laidMet Tryz.prog Rows.lexerOffsetsRow.laid ((laidWorld os).forCall (fun _ _ => 0) ⟨#[], #[.string ByteArray.empty], []⟩).memory :=
  laidMet_of_run' 8 (by kernel_rfl) (by kernel_rfl)
theorem reads (os : Os) {H : Type} (enc : TypeId × Value → H) : ∃ places, DataW.whole enc Tryz.prog ((laidWorld os).forCall (fun _ _ => 0) ⟨#[], #[.string ByteArray.empty], []⟩).memory Tryz.f6.params.toList Rows.lexerOffsetsSpec.vars false (#[.string ByteArray.empty] : Array Value).toList 8 = some ([.lit (.string [])], [], places) :=
  ⟨[], by kernel_rfl⟩
theorem shape (W : World) (h : W.ShapedOpen Tryz.prog) : MaxL W := cell_of_shapedOpen_int (zero := #[.int .i64 0]) h (of_decide_eq_true (by kernel_rfl)) (by kernel_rfl) (by kernel_rfl) (by kernel_rfl) (by kernel_rfl) Tryz.underlying3

theorem tab (W : World) (h : laidMetH Tryz.prog Rows.lexerOffsetsRow.laid W) : TabW W := by
  have h1 : laidMet Tryz.prog Rows.lexerOffsetsRow.laid W := h
  exact Lib.tabIs_of_head (g := 1) (t := 153) (e := 131) (n := 20) (by kernel_rfl) (by kernel_rfl) Tryz.underlying153 Tryz.underlying131 (by kernel_rfl) (by kernel_rfl) h1.tail.tail
set_option maxRecDepth 100000 in
theorem contract (H : Type) (enc : TypeId × Value → H) (W : World) (base : Nat) (args : Array Value) (ds gs : List (DataW H)) (before : List MemPlace)
    (hval0 : ∀ (j : Nat) t v, Tryz.f6.params[j]? = some t → args[j]? = some v → Value.okWide Tryz.prog W .any base t v)
    (hW : DataW.Whole enc Tryz.prog Tryz.f6.params.toList Rows.lexerOffsetsSpec.vars false W args.toList ds gs before) (hz : (DataW.weightsEach Tryz.prog (Tryz.f6.params.toList ++ (OpenSpec.ofChange Rows.lexerOffsetsSpec).bare.plain.varTypes Tryz.prog) (ds ++ gs)).all (· ≤ reachBytes) = true) (hL : laidMetH Tryz.prog Rows.lexerOffsetsRow.laid W) (hm : MaxL W) :
    Calls Tryz.prog 6 args W fun e W' => ∃ v, e = .returned v ∧ Rows.lexerOffsetsSpec.post enc Tryz.prog Tryz.f6 false true false false W args v W' := by
  have hval := hval0
  have hW' := hW
  obtain ⟨p, q, hA0, hV, rfl, hfz, hnd⟩ := hW
  have hA : DataW.TrodAll enc Tryz.prog W 0 (fun _ => true) true Tryz.f6.params.toList args.toList ds p := hA0
  rw [Tryz.params6] at hA hval
  obtain ⟨v0, vs0, d0, ds0, p0, q0, hargs, rfl, rfl, h0, r0⟩ := trodAll_cons hA
  obtain ⟨rfl, rfl, rfl⟩ := trodAll_nil r0
  obtain rfl : args = #[v0] := by cases args; simp_all
  obtain ⟨rfl, rfl⟩ := trodVars_none hV
  obtain ⟨a0, rfl, rfl, rfl, w0⟩ := open_string Tryz.underlying9 (hval 0 9 v0 rfl rfl) h0
  have s0 : a0.size ≤ 140737488351232 := by rw [Lib.size_eq]; exact sized_string hz (j := 0) rfl rfl
  clear hA0 hval0 hz
  simp only [List.append_nil] at hW'
  refine (lexerOffsets_walk a0 W s0 (tab W hL) hm).mono fun W' bel => ?_
  exact ⟨_, rfl, _, _, _, [], [], [], hW', trodAll_mk1 (shut_bool Tryz.underlying4 _), (trodAll_cons_mk (shut_string Tryz.underlying9 w0) trodAll_mk0), rfl, bel.frame _, fun h => by cases h⟩

set_option maxRecDepth 100000 in
theorem lifted (os : Os) (started : os.Started) (H : Type) (enc : TypeId × Value → H) (F : Stop.Interp) :
    ReturnsInHanded {} Tryz.checked os 6 .any ((OpenSpec.ofChange Rows.lexerOffsetsSpec).preRow enc Tryz.prog Tryz.f6 Rows.lexerOffsetsRow.domain false Rows.lexerOffsetsRow.laid) (((OpenSpec.ofChange Rows.lexerOffsetsSpec).at F).post enc Tryz.prog Tryz.f6 false true false false) := by
  obtain ⟨places, hx⟩ := reads os enc
  refine returnsInHanded_of_row (C := Tryz.checked) (s := OpenSpec.ofChange Rows.lexerOffsetsSpec) own started (by kernel_rfl) Tryz.func6
    (witness_row_at (enc := enc) (C := Tryz.checked) false (laidWorld os) #[.string ByteArray.empty] rfl (by kernel_rfl) (by kernel_rfl) (by kernel_rfl)
      (OpenSpec.preRow_of_cond 8 hx (by kernel_rfl) (fun k hk => by cases hk) (by kernel_rfl) (laid_met os))) ?_
  intro W base args ds gs before hval hW _ _ hz hL hsh _
  exact contract H enc W base args ds gs before hval hW hz hL (shape W hsh)

theorem said : Rows.LexerOffsetsSaid :=
  OpenClaim.holds_of_cond 6 Tryz.f6 rfl rfl rfl rfl rfl rfl rfl ⟨rfl, rfl, rfl, rfl, rfl⟩ rfl rfl rfl rfl rfl (by kernel_rfl) Tryz.func6 (by kernel_rfl)
    (of_decide_eq_true (by kernel_rfl)) (by unfold Func.isWrapper; first | (rw [if_pos (by decide +kernel)]; kernel_rfl) | (rw [if_neg (by decide +kernel)]; exact ⟨rfl, rfl⟩))
    (fun os started H enc _ F => by rw [OpenClaim.pre_eq_preRow]; exact lifted os started H enc F)

theorem plain (f : FuncId) (fn : Func) (hf : Tryz.pinned.checked.prog.funcNamed "nursery/nurserylaw10.LexerOffsets" = some f) (hfn : Tryz.pinned.checked.prog.funcs[f]? = some fn) :
    true = Tryz.pinned.checked.prog.looks [] ∧ ∀ (j : Nat) t, fn.params[j]? = some t → Tryz.pinned.checked.prog.wantsStandIn t = false := by
  obtain rfl : f = 6 := Option.some.inj ((show Tryz.prog.funcNamed "nursery/nurserylaw10.LexerOffsets" = some 6 by kernel_rfl).symm.trans hf) |>.symm
  obtain rfl : fn = Tryz.f6 := (Option.some.inj (Tryz.func6.symm.trans hfn)).symm
  refine ⟨by kernel_rfl, fun j t ht => ?_⟩
  rw [Tryz.params6] at ht
  rcases j with _ | j
  · obtain rfl : t = 9 := by simpa using ht.symm
    exact (show Tryz.prog.wantsStandIn 9 = false by kernel_rfl)
  · simp at ht

/-- the statement -/
theorem proved : Rows.LexerOffsetsCardSaid :=
  Claim7.holds_tied_plain_at .later [] _ _ _ _ said (fun _ h => by cases h) (by kernel_rfl) (fun _ h => by cases h) lexerOffsets_row_tie rfl ⟨rfl, rfl⟩ (by kernel_rfl) rfl plain (by kernel_rfl)
#print axioms proved
end Go.Proofs.YtmokejjndkibhaaGreatDoor.lexerOffsets

