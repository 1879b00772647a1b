/- Lemmas and walks for the statements of this seat, part 2, merged from smaller texts: history.Check.; Rows of pairs of the call's own; the pairs of a history.; history.Before.; Sets as bits of an integer.; A region that draws its order, whose operations may make memory: each operation's result is described by a predicate that later growth of the memory keeps.; A region that draws its order, whose operations may make memory and store: each operation's result is described by a predicate on the values of the operations that it waits for, and on the world, which a relation of one's own keeps.; A region that draws its order and ends with a chain: the head by predicates (Rg), the tail walked as a list.; As Rg; the operations that make memory yield addresses that are all different.; Rt and Rp: the head's allocations yield addresses that all differ, the tail is walked as a list. -/
import Derived.Lib.OthersKept
import Derived.Laws.Bits64
import Derived.Laws.BitsAllLaws
import Derived.Laws.Tables
import Derived.Laws.Rows
import Derived.Test.YtmbkjccckmlacaaDoorPart1

namespace Go.Proofs.YtmbkjccckmlacaaDoor
open Go.RowKit
set_option linter.unusedVariables false
set_option linter.unusedSimpArgs false

theorem fstE_at {f : Nat → Int} {j : Nat} (h0 : fstE f j = 0) (h1 : f j ≠ 0) : ∀ {n : Nat}, j < n → fstE f n = f j
  | 0, h => by omega
  | n + 1, h => by
    unfold fstE
    by_cases hj : j = n
    · subst hj; rw [h0]; simp
    · rw [fstE_at h0 h1 (n := n) (by omega), if_pos h1]
theorem fstE_step {f : Nat → Int} {j : Nat} (h0 : fstE f j = 0) (h1 : f j = 0) : fstE f (j + 1) = 0 := by unfold fstE; rw [h0, h1]; simp
theorem fstE_all {f : Nat → Int} : ∀ {n : Nat}, fstE f n = 0 → ∀ i, i < n → f i = 0
  | 0, _, i, h => by omega
  | n + 1, h0, i, h => by
    unfold fstE at h0
    split at h0
    · contradiction
    · next h1 =>
      have h1 := Decidable.not_not.1 h1
      by_cases hi : i = n
      · subst hi; exact h0
      · exact fstE_all h1 i (by omega)
/-- the number of the last call of a task, counted from 1 -/
def lastN (l : List Cl) : Nat → Int → Nat
  | 0, _ => 0
  | j + 1, t => if (l[j]?.map (·.task)) = some t then j + 1 else lastN l j t
theorem lastN_le (l : List Cl) (t : Int) : ∀ j, lastN l j t ≤ j
  | 0 => Nat.le_refl _
  | j + 1 => by unfold lastN; have := lastN_le l t j; split <;> omega
theorem lastH_eq (l : List Cl) (t : Int) : ∀ j, j ≤ l.length → lastH l j t = if lastN l j t = 0 then none else l[lastN l j t - 1]?
  | 0, _ => by simp [lastH, lastN]
  | j + 1, h => by
    have ih := lastH_eq l t j (by omega)
    unfold lastH at ih ⊢
    rw [List.take_succ_eq_append_getElem (by omega), List.reverse_append, List.reverse_singleton, List.singleton_append, List.find?_cons]
    unfold lastN
    rw [List.getElem?_eq_getElem (by omega)]
    simp only [Option.map_some, Option.some.injEq]
    by_cases ht : l[j].task = t
    · simp [ht]
    · rw [if_neg ht, decide_eq_false ht]
      exact ih
theorem tskE_at {l : List Cl} {j : Nat} (h : j < l.length) : tskE l j = if seqE l j l[j] then 0 else 17 := by
  unfold tskE; rw [List.getElem?_eq_getElem h]
theorem seqE_zero {l : List Cl} {j : Nat} {x : Cl} (h : j ≤ l.length) (h0 : lastN l j x.task = 0) : seqE l j x = true := by
  unfold seqE; rw [lastH_eq l _ j h, if_pos h0]
theorem seqE_succ {l : List Cl} {j k : Nat} {x : Cl} (h : j ≤ l.length) (h0 : lastN l j x.task = k + 1) (hk : k < l.length) : seqE l j x = decide (l[k].en ≠ -1 ∧ l[k].en < x.beg) := by
  unfold seqE; rw [lastH_eq l _ j h, if_neg (by omega), h0, Nat.add_sub_cancel, List.getElem?_eq_getElem hk]
theorem lastN_succ {l : List Cl} {j : Nat} (h : j < l.length) (t : Int) : lastN l (j + 1) t = if l[j].task = t then j + 1 else lastN l j t := by
  rw [lastN, List.getElem?_eq_getElem h]; simp
abbrev lastO (f : Int → Nat) : Obj := .cells ((List.range 16).map fun t : Nat => Value.int .i64 ((f ((t : Nat) : Int) : Nat) : Int)).toArray 66 (0, 0)
theorem lastO_get (f : Int → Nat) (t : Nat) (h : t < 16) : ((List.range 16).map fun t : Nat => Value.int .i64 ((f ((t : Nat) : Int) : Nat) : Int)).toArray[t]? = some (.int .i64 ((f (t : Int) : Nat) : Int)) := by simp [h]
theorem lastO_set (f : Int → Nat) (t : Nat) (m : Nat) : ((List.range 16).map fun t : Nat => Value.int .i64 ((f ((t : Nat) : Int) : Nat) : Int)).toArray.setIfInBounds t (.int .i64 (m : Int)) = ((List.range 16).map fun u : Nat => Value.int .i64 (((if (t : Int) = ((u : Nat) : Int) then m else f ((u : Nat) : Int) : Nat)) : Int)).toArray := by
  apply Array.toList_inj.1
  apply List.ext_getElem?
  intro j
  simp only [Array.toList_setIfInBounds, List.getElem?_set]
  by_cases hj : j < 16
  · by_cases ht : t = j
    · subst ht; simp [hj]
    · have : ¬ (t : Int) = (j : Int) := by omega
      simp [hj, ht]
      rw [if_neg this]
  · by_cases ht : t = j <;> simp [hj, ht]
theorem last_turn {l : List Cl} {j t g : Nat} {w W : World} (hj : j < l.length) (ht : l[j].task = (t : Int)) (h : Turn g (lastO (lastN l j)) w W) : Turn g (lastO (lastN l (j + 1))) w (W.setCell ⟨g, t, none⟩ (.int .i64 ((j : Int) + 1))) := by
  have h2 := h.setCell (i := t) (.int .i64 ((j : Int) + 1))
  rw [show (j : Int) + 1 = ((j + 1 : Nat) : Int) by omega, lastO_set] at h2
  rw [show (j : Int) + 1 = ((j + 1 : Nat) : Int) by omega]
  have e : (fun u : Nat => Value.int .i64 (((if (t : Int) = ((u : Nat) : Int) then j + 1 else lastN l j ((u : Nat) : Int) : Nat)) : Int)) = fun u : Nat => Value.int .i64 ((lastN l (j + 1) ((u : Nat) : Int) : Nat) : Int) := by
    funext u
    rw [lastN_succ hj, ht]
  rw [e] at h2
  exact h2
theorem maxLenCl {n : Nat} (h : ¬ 100 < n) : n ≤ 100 := by omega
set_option maxRecDepth 100000 in
set_option maxHeartbeats 4000000 in
theorem Check_any (l : List Cl) (a : Option Addr) (c : Nat) (w : World) (hm : l.length ≤ maxLen) (h : HsAt w a l) :
    Gives Tryd.prog 14 #[.slice a l.length c] w (.int .i64 (ckH l)) := by
  unfold maxLen at hm
  unfold Gives
  have HK := Lib.hid (show ckH l = if 100 < l.length then 4 else if fstE (callE l) l.length ≠ 0 then fstE (callE l) l.length else if ¬ PsOk (psH l) (psH l).length then 16 else fstE (tskE l) l.length from rfl)
  generalize ckH l = R at *
  by_cases h100 : 100 < l.length
  · have HR := Lib.hid (show R = 4 by rw [HK.out, if_pos h100])
    clear HK
    have d1 : decide ((100 : Int) < ((l.length : Nat) : Int)) = true := by simp; omega
    go_enter Tryd.func14, Tryd.ntmps14
    go_wp2
    go_ret
    exact ⟨by rw [HR.out]; rfl, Below.refl _ _⟩
  · have HH := Lib.hid (fun W (hW : Ext w W) => h.ext hW)
    have HK2 := Lib.hid (show R = if fstE (callE l) l.length ≠ 0 then fstE (callE l) l.length else if ¬ PsOk (psH l) (psH l).length then 16 else fstE (tskE l) l.length by rw [HK.out, if_neg h100])
    have HC := Lib.hid (fun W (hW : Ext w W) i (hi : i < l.length) => call_any l a c i W hi (h.ext hW) (by omega))
    have HPos := Lib.hid (fun W (hW : Ext w W) => positions_any l a c W (h.ext hW) (by omega))
    clear HK h
    obtain ⟨len, hlen⟩ : ∃ n, l.length = n := ⟨_, rfl⟩
    have HL := Lib.hid hlen
    rw [hlen] at h100 hm HK2 ⊢
    have HC := Lib.hid (fun W (hW : Ext w W) i (hi : i < len) => show Gives Tryd.prog 34 #[.slice a len c, .int .i64 (i : Int)] W (.int .i64 (callE l i)) from hlen ▸ HC.out W hW i (by omega))
    have HPos := Lib.hid (fun W (hW : Ext w W) (ho : ∀ i, i < len → callE l i = 0) => show Gives Tryd.prog 35 #[.slice a len c] W (.bool (decide (PsOk (psH l) (psH l).length))) from hlen ▸ HPos.out W hW (fun i hi => ho i (by omega)))
    clear hlen
    have d1 : decide ((100 : Int) < (len : Int)) = false := by simp; omega
    have hl1 : len ≤ 100 := by omega
    clear h100
    go_enter Tryd.func14, Tryd.ntmps14
    go_wp2
    go_loopw [14] (fun i wr => ∃ j : Nat, j ≤ len ∧ i = .int .i64 (j : Int) ∧ fstE (callE l) j = 0 ∧ Ext w wr) (fun i _ => len - (intOf i).toNat)
    case atStart => exact ⟨0, Nat.zero_le _, rfl, rfl, Below.refl _ _⟩
    case round =>
      obtain ⟨j, hj, rfl, h0, hE⟩ := hrel
      have HE := Lib.hid hE
      have H0 := Lib.hid h0
      clear hE h0
      by_cases hlt : j < len
      · have HCj := Lib.hid (HC.out wr HE.out j hlt)
        by_cases hc : callE l j = 0
        · have HS := Lib.hid (fstE_step H0.out hc)
          rw [hc] at HCj
          clear hc
          go_wp2_with fail
          refine HCj.out.mono ?_
          intro w1 hB
          have HE1 := Lib.hid (Ext.trans HE.out hB)
          clear hB
          go_wp2
          go_roundw
          case rel => exact ⟨j + 1, by omega, by go_num, HS.out, HE1.out⟩
          case measure => simp [intOf]; omega
        · have HS := Lib.hid (fstE_at H0.out hc hlt)
          have HR := Lib.hid (show R = callE l j by rw [HK2.out, if_pos (by rw [HS.out]; exact hc), HS.out])
          generalize callE l j = r at *
          have d2 : (r != 0) = true := by simpa using hc
          clear hc
          go_wp2_with fail
          refine HCj.out.mono ?_
          intro w1 hB
          have HE1 := Lib.hid (Ext.trans HE.out hB)
          clear hB
          go_wp2
          go_ret
          exact ⟨by rw [HR.out]; rfl, HE1.out⟩
      · have hjl : j = len := by omega
        subst j
        have HO := Lib.hid (fstE_all H0.out)
        have HK3 := Lib.hid (show R = if ¬ PsOk (psH l) (psH l).length then 16 else fstE (tskE l) len by rw [HK2.out, if_neg (by rw [H0.out]; simp)])
        have HP := Lib.hid (HPos.out wr HE.out HO.out)
        by_cases hp : PsOk (psH l) (psH l).length
        · have HK4 := Lib.hid (show R = fstE (tskE l) len by rw [HK3.out, if_neg (by simpa using hp)])
          rw [decide_eq_true hp] at HP
          clear hp hlt hj
          go_wp2_with fail
          refine HP.out.mono ?_
          intro w1 hB
          have HE1 := Lib.hid (Ext.trans HE.out hB)
          clear hB
          obtain ⟨w2, hw2⟩ : ∃ W, W = w1.alloc (.cells #[.int .i64 0, .int .i64 0, .int .i64 0, .int .i64 0, .int .i64 0, .int .i64 0, .int .i64 0, .int .i64 0, .int .i64 0, .int .i64 0, .int .i64 0, .int .i64 0, .int .i64 0, .int .i64 0, .int .i64 0, .int .i64 0] 66) := ⟨_, rfl⟩
          have HT2 := Lib.hid (show Turn w1.heap.size (lastO (lastN l 0)) w2 w2 from Turn.refl (by rw [hw2]; exact alloc_here _ _))
          have HE2 := Lib.hid (show Ext w1 w2 by rw [hw2]; exact ext_allocN _ _)
          have HQ := Lib.hid (fun W j (hT : Turn w1.heap.size (lastO (lastN l j)) w2 W) => show Ext w W from Below.trans HE1.out (Below.trans (HE2.out.mono HE1.out.size) (hT.below HE1.out.size (Nat.le_trans HE1.out.size HE2.out.size))))
          go_wp2
          rw [← hw2]
          clear hw2
          go_loopw [29] (fun i wr => ∃ j : Nat, j ≤ len ∧ i = .int .i64 (j : Int) ∧ fstE (tskE l) j = 0 ∧ Turn w1.heap.size (lastO (lastN l j)) w2 wr) (fun i _ => len - (intOf i).toNat)
          case atStart => exact ⟨0, Nat.zero_le _, rfl, rfl, HT2.out⟩
          case round =>
            obtain ⟨j, hj, rfl, h0, hT⟩ := hrel
            have HF := Lib.hid h0
            have HT := Lib.hid hT
            have HEr := Lib.hid (HQ.out _ _ hT)
            have hgz : w1.heap.size < wr.heap.size := hT.lt
            clear h0 hT
            by_cases hlt : j < len
            · have hlt' : j < l.length := by rw [HL.out]; exact hlt
              have HLT := Lib.hid hlt'
              obtain ⟨o1, o2, ⟨o3, o4⟩, o5⟩ := clE_ok HLT.out (HO.out j hlt)
              obtain ⟨b, off, rfl, c0, c1, c2, c3, c4, c5⟩ := HH.out wr HEr.out j HLT.out
              obtain ⟨t, ht⟩ : ∃ t : Nat, (l[j]'HLT.out).task = (t : Int) := ⟨(l[j]'HLT.out).task.toNat, by omega⟩
              have ht16 : t < 16 := by omega
              have HTs := Lib.hid (tskE_at HLT.out)
              have HN := Lib.hid (fun W (hT : Turn w1.heap.size (lastO (lastN l j)) w2 W) => last_turn HLT.out ht hT)
              have hcell := cell_of HT.out.here (lastO_get (lastN l j) t ht16)
              have hfr := free_of (i := t) HT.out.here
              have HS0 := Lib.hid (fun (h : lastN l j (t : Int) = 0) => seqE_zero (l := l) (j := j) (x := l[j]'HLT.out) (by omega) (by rw [ht]; exact h))
              have HS1 := Lib.hid (fun k (h : lastN l j (t : Int) = k + 1) (hk : k < l.length) => seqE_succ (l := l) (j := j) (x := l[j]'HLT.out) (by omega) (by rw [ht]; exact h) hk)
              have HLe := Lib.hid (lastN_le l (t : Int) j)
              have HPrev := Lib.hid (fun k (hk : k < l.length) => HH.out wr HEr.out k hk)
              generalize l[j]'HLT.out = x at *
              obtain ⟨tk, me, ar, re, be, en⟩ := x
              dsimp only at *
              subst ht
              clear o1 o2 o3 o4 o5 hlt'
              generalize lastN l j (t : Int) = k at *
              have ht1 : (t : Int) < 16 := by omega
              have ht0 : (0 : Int) ≤ (t : Int) := by omega
              cases k with
              | zero =>
                have HS := Lib.hid (HS0.out rfl)
                have HF1 := Lib.hid (fstE_step HF.out (by rw [HTs.out, HS.out]; rfl))
                go_wp2
                go_quiet (fail)
                go_wp2
                go_roundw
                case rel => exact ⟨j + 1, by omega, by go_num, HF1.out, HN.out _ ((HT.out.alloc _).drewN _)⟩
                case measure => simp [intOf]; omega
              | succ k =>
                have hkl : k < l.length := by have := HLe.out; have := HLT.out; omega
                have HS := Lib.hid (HS1.out k rfl hkl)
                obtain ⟨b', off', e', -, -, -, -, -, p5⟩ := HPrev.out k hkl
                obtain ⟨rfl, rfl⟩ : b = b' ∧ off = off' := by injection e' with e'; injection e' with e1 e2; exact ⟨e1, e2⟩
                clear e' HS0 HS1
                have hbz : b < wr.heap.size := cell_lt p5
                have hk1 : (k : Int) < (len : Int) := by have := HLe.out; omega
                have hk0 : (0 : Int) ≤ (k : Int) := by omega
                have hkp : (0 : Int) < (k : Int) + 1 := by omega
                have hks : (k : Int) + 1 - 1 = (k : Int) := by omega
                have hk4 : (k : Int) + 1 < (len : Int) := by have := HLe.out; omega
                have hk5 : (k : Int) + 1 ≤ 101 := by omega
                have hk6 : (k : Int) ≤ 100 := by omega
                have hk7 : IntKind.i64.wrap (k : Int) = (k : Int) := IntWalk.i64_in _ (by omega)
                rw [show ((k + 1 : Nat) : Int) = (k : Int) + 1 by omega] at hcell
                generalize (l[k]'hkl).en = ek at *
                clear hkl
                by_cases h1 : ek = -1
                · have g1 : (ek == -1) = true := by simpa using h1
                  have HR := Lib.hid (show R = 17 by rw [HK4.out, fstE_at HF.out (by rw [HTs.out, HS.out]; simp [h1]) hlt, HTs.out, HS.out]; simp [h1])
                  clear h1
                  go_wp2
                  go_quiet (fail)
                  go_wp2
                  go_ret
                  exact ⟨by rw [HR.out]; rfl, HQ.out _ j ((HT.out.alloc _).drewN _)⟩
                · have g1 : (ek == -1) = false := by simpa using h1
                  by_cases h2 : be ≤ ek
                  · have g2 : decide (be ≤ ek) = true := by simpa using h2
                    have HR := Lib.hid (show R = 17 by rw [HK4.out, fstE_at HF.out (by rw [HTs.out, HS.out, decide_eq_false (by omega)]; simp) hlt, HTs.out, HS.out, decide_eq_false (by omega)]; simp)
                    clear h1 h2
                    go_wp2
                    go_quiet (fail)
                    go_wp2
                    go_ret
                    exact ⟨by rw [HR.out]; rfl, HQ.out _ j ((HT.out.alloc _).drewN _)⟩
                  · have g2 : decide (be ≤ ek) = false := by simpa using h2
                    have HF1 := Lib.hid (fstE_step HF.out (by rw [HTs.out, HS.out, decide_eq_true (by omega)]; rfl))
                    clear h1 h2
                    go_wp2
                    go_quiet (fail)
                    go_wp2
                    go_roundw
                    case rel => exact ⟨j + 1, by omega, by go_num, HF1.out, HN.out _ ((HT.out.alloc _).drewN _)⟩
                    case measure => simp [intOf]; omega
            · have hjl : j = len := by omega
              subst j
              have HR := Lib.hid (show R = 0 by rw [HK4.out, HF.out])
              go_wp2
              go_ret
              exact ⟨by rw [HR.out]; rfl, HEr.out⟩
        · have HR := Lib.hid (show R = 16 by rw [HK3.out, if_pos hp])
          rw [decide_eq_false hp] at HP
          clear hp hlt hj
          go_wp2_with fail
          refine HP.out.mono ?_
          intro w1 hB
          have HE1 := Lib.hid (Ext.trans HE.out hB)
          clear hB
          go_wp2
          go_ret
          exact ⟨by rw [HR.out]; rfl, HE1.out⟩
end Go.Proofs.YtmbkjccckmlacaaDoor

namespace Go.Proofs.YtmbkjccckmlacaaDoor
open Go.RowKit
set_option linter.unusedVariables false
set_option linter.unusedSimpArgs false

abbrev tEd : TypeId := 56
def cEd (p : Nat × Nat) : List Value := [.int .i64 (p.1 : Int), .int .i64 (p.2 : Int)]
theorem infoEd : (Tryd.prog.info? 56).map (fun i => (i.zero, i.size, i.bytes)) = some (some (.agg #[.int .i64 0, .int .i64 0]), 2, 16) := by kernel_rfl
theorem flatEd_len : ∀ l : List (Nat × Nat), (l.flatMap cEd).length = l.length * 2
  | [] => rfl
  | x :: l => by rw [List.flatMap_cons, List.length_append, flatEd_len l, List.length_cons]; simp [cEd]; omega
theorem flatEd_get : ∀ (l : List (Nat × Nat)) (i : Nat) (h : i < l.length) (j : Nat), j < 2 → (l.flatMap cEd)[i * 2 + j]? = (cEd l[i])[j]?
  | x :: l, 0, _, j, hj => by
    rw [List.flatMap_cons, Nat.zero_mul, Nat.zero_add, List.getElem?_append_left (by simpa [cEd] using hj)]; rfl
  | x :: l, i + 1, h, j, hj => by
    rw [List.flatMap_cons, List.getElem?_append_right (by simp [cEd]; omega)]
    rw [show (i + 1) * 2 + j - (cEd x).length = i * 2 + j by simp [cEd]; omega]
    exact flatEd_get l i (by simpa using h) j hj
/-- v is a row of pairs of the call's own -/
def RowEd (base : Nat) (v : Value) (l : List (Nat × Nat)) (w : World) : Prop := w.ownsRow base tEd 2 v l.length (l.flatMap cEd)
theorem RowEd.ext {base : Nat} {v : Value} {l : List (Nat × Nat)} {w w' : World} (h : RowEd base v l w) (hE : Ext w w') : RowEd base v l w' := ownsRow_extI h hE.below
theorem RowEd.nil (base : Nat) (w : World) : RowEd base (.slice none 0 0) [] w := World.ownsRow_nil _ _ _ _
/-- all blocks but rows of pairs are as they were -/
def KeptEd (w w' : World) : Prop := w.heap.size ≤ w'.heap.size ∧ ∀ (b : Nat) o, w.heap[b]? = some o → (∀ c f, o ≠ .cells c tEd f) → w'.heap[b]? = some o
theorem KeptEd.of_ext {w w' : World} (h : Ext w w') : KeptEd w w' := ⟨h.size, fun b o hb _ => (h.below.block b (lt_of_block hb)).trans hb⟩
theorem KeptEd.trans {a b c : World} (h : KeptEd a b) (g : KeptEd b c) : KeptEd a c := ⟨Nat.le_trans h.1 g.1, fun k o hk hn => g.2 k o (h.2 k o hk hn) hn⟩
variable {ops : Array Oper} {rest : List Oper} {o : Oper} {a : Act} {Q : Exit → Act → World → Prop}
theorem wp_appEd (hgd : o.guard = none) (s x : Operand) (ho : o.op = .call { callee := .builtin .append, args := #[s, x], argTypes := #[44, 44] })
    (base : Nat) (v : Value) (l : List (Nat × Nat)) (hs : a.eval s = v) (W : World) (h : RowEd base v l W) (r : Nat × Nat) (g : Nat) (hgs : g = W.heap.size) (hx : a.eval x = .slice (some ⟨g, 0, none⟩) 1 1) (hlen : l.length ≤ 1000000000) (hbase : base ≤ W.heap.size)
    (hK : ∀ v' w', RowEd base v' (l ++ [r]) w' → Below base W w' → KeptEd W w' → wpList Tryd.prog ops Q rest (a.put o.dst v') w') : wpList Tryd.prog ops Q (o :: rest) a (W.alloc (.cells #[.int .i64 (r.1 : Int), .int .i64 (r.2 : Int)] 56)) := by
  subst hgs
  obtain ⟨i0, hi, hz0, hz1, hz2⟩ := info_parts infoEd
  have hrow : RowEd base v l (W.alloc (.cells #[.int .i64 (r.1 : Int), .int .i64 (r.2 : Int)] 56)) := h.ext (ext_allocN _ _)
  have hg0 := alloc_here W (.cells #[.int .i64 (r.1 : Int), .int .i64 (r.2 : Int)] 56)
  refine wpList_append_own _ hgd s x 44 ho base 56 i0 (.agg #[.int .i64 0, .int .i64 0]) 2 16 Tryd.underlying44 hi hz0 hz1 hz2 rfl (by decide) v l.length (l.flatMap cEd) hs hrow ⟨W.heap.size, 0, none⟩ 1 1 (cEd r) hx rfl (fun j u hu => ?_) (fun u hu => ?_) (by unfold maxLen; omega) (by omega) (by simp; omega) ?_
  · have e : (⟨W.heap.size, 0, none⟩ : Addr).add j = ⟨W.heap.size, j, none⟩ := by unfold Addr.add; split <;> simp_all
    rw [e]
    refine cell_of hg0 ?_
    simpa [cEd] using hu
  · simp only [cEd, List.mem_cons, List.not_mem_nil, or_false] at hu
    rcases hu with rfl | rfl <;> rfl
  · intro v' w' hown hg _
    refine hK v' w' ?_ ?_ ?_
    · unfold RowEd
      simpa [List.flatMap_append] using hown
    · exact ((Below.refl base W).alloc hbase _).grown hg (by simp; omega) (fun k e => (World.ownsRow.lt hrow k e).1)
    · refine (KeptEd.of_ext (ext_allocN W _)).trans ⟨hg.size, fun b ob hb hne => (hg.block b (lt_of_block hb) (fun e => ?_)).trans hb⟩
      rcases hrow.2 with ⟨rfl, _⟩ | ⟨g, cap, cur, rfl, _, hgb, _⟩
      · simp [Value.ownBlock] at e
      · obtain rfl : g = b := by simpa [Value.ownBlock] using e.symm
        rw [hgb] at hb
        exact hne _ _ (Option.some.inj hb).symm

/-- the pairs of a call -/
def bfI (l : List Cl) (i m : Nat) : List (Nat × Nat) := (List.range m).filterMap fun k => if befF l k i then some (i, k) else none
def bfP (l : List Cl) (j k : Nat) : List (Nat × Nat) := (List.range j).flatMap (fun i => bfI l i l.length) ++ bfI l j k
def bfR (l : List Cl) : List (Nat × Nat) := (List.range l.length).flatMap fun i => bfI l i l.length
theorem bfI_len (l : List Cl) (i m : Nat) : (bfI l i m).length ≤ m := Nat.le_trans (List.length_filterMap_le _ _) (by simp)
theorem bfP_zero (l : List Cl) : bfP l 0 0 = [] := rfl
theorem bfP_row (l : List Cl) (j : Nat) : bfP l j l.length = bfP l (j + 1) 0 := by simp [bfP, List.range_succ, bfI]
theorem bfP_end (l : List Cl) : bfP l l.length 0 = bfR l := by simp [bfP, bfR, bfI]
theorem bfP_succ (l : List Cl) (j k : Nat) : bfP l j (k + 1) = if befF l k j then bfP l j k ++ [(j, k)] else bfP l j k := by
  unfold bfP bfI
  rw [List.range_succ, List.filterMap_append]
  by_cases h : befF l k j <;> simp [h]
theorem bfI_sum (l : List Cl) : ∀ j, ((List.range j).flatMap fun i => bfI l i l.length).length ≤ j * l.length
  | 0 => by simp
  | j + 1 => by
    rw [List.range_succ, List.flatMap_append, List.length_append, Nat.succ_mul]
    have := bfI_sum l j
    have := bfI_len l j l.length
    rw [List.flatMap_singleton]
    omega
theorem bfP_le (l : List Cl) (j k : Nat) (hj : j ≤ 100) (hk : k ≤ 100) (hl : l.length ≤ 100) : (bfP l j k).length ≤ 20000 := by
  unfold bfP
  rw [List.length_append]
  have h1 := bfI_sum l j
  have h2 := bfI_len l j k
  have h3 : j * l.length ≤ 100 * 100 := Nat.mul_le_mul hj hl
  omega
theorem mem_bfR {l : List Cl} {p : Nat × Nat} : p ∈ bfR l ↔ p.1 < l.length ∧ p.2 < l.length ∧ befF l p.2 p.1 = true := by
  unfold bfR bfI
  simp only [List.mem_flatMap, List.mem_filterMap, List.mem_range]
  constructor
  · rintro ⟨i, hi, k, hk, h⟩
    split at h
    · next hb => cases h; exact ⟨hi, hk, hb⟩
    · cases h
  · rintro ⟨h1, h2, h3⟩
    exact ⟨p.1, h1, p.2, h2, by rw [if_pos h3]⟩
/-- what the pairs say of a call: the calls that precede it -/
def orL (ps : List (Nat × Nat)) (i : Nat) : Nat := ps.foldl (fun s p => if p.2 = i then s ||| 2 ^ p.1 else s) 0
theorem orL_snoc (ps : List (Nat × Nat)) (p : Nat × Nat) (i : Nat) : orL (ps ++ [p]) i = if p.2 = i then orL ps i ||| 2 ^ p.1 else orL ps i := by simp [orL]
theorem orF_bit (i j : Nat) : ∀ (ps : List (Nat × Nat)) (s : Nat), (ps.foldl (fun s p => if p.2 = i then s ||| 2 ^ p.1 else s) s).testBit j = (s.testBit j || ps.any fun p => decide (p.2 = i ∧ p.1 = j))
  | [], s => by simp
  | p :: ps, s => by
    rw [List.foldl_cons, orF_bit i j ps, List.any_cons]
    by_cases h : p.2 = i
    · rw [if_pos h, Nat.testBit_or, Nat.testBit_two_pow, Bool.or_assoc]
      simp [h]
    · rw [if_neg h]; simp [h]
theorem orL_bit (i j : Nat) (ps : List (Nat × Nat)) : (orL ps i).testBit j = ps.any fun p => decide (p.2 = i ∧ p.1 = j) := by
  unfold orL; rw [orF_bit]; simp
theorem orF_lt {i n : Nat} : ∀ {ps : List (Nat × Nat)} {s : Nat}, (∀ p ∈ ps, p.1 < n) → s < 2 ^ n → ps.foldl (fun s p => if p.2 = i then s ||| 2 ^ p.1 else s) s < 2 ^ n
  | [], s, _, hs => hs
  | p :: ps, s, h, hs => by
    rw [List.foldl_cons]
    refine orF_lt (fun q hq => h q (by simp [hq])) ?_
    split
    · exact Nat.or_lt_two_pow hs (Nat.pow_lt_pow_right (by omega) (h p (by simp)))
    · exact hs
theorem orL_lt {i n : Nat} {ps : List (Nat × Nat)} (h : ∀ p ∈ ps, p.1 < n) : orL ps i < 2 ^ n := orF_lt h (Nat.two_pow_pos _)
theorem orL_bef {l : List Cl} {i : Nat} (hi : i < l.length) : orL (bfR l) i = bef l i := by
  apply Nat.eq_of_testBit_eq
  intro j
  rw [orL_bit]
  unfold bef
  rw [msk_bit, Bool.eq_iff_iff]
  simp only [List.any_eq_true, decide_eq_true_eq, Bool.and_eq_true]
  constructor
  · rintro ⟨p, hp, rfl, rfl⟩
    obtain ⟨h1, -, h3⟩ := mem_bfR.1 hp
    exact ⟨h1, h3⟩
  · rintro ⟨h1, h2⟩
    exact ⟨(j, i), mem_bfR.2 ⟨h1, hi, h2⟩, rfl, rfl⟩
end Go.Proofs.YtmbkjccckmlacaaDoor

namespace Go.Proofs.YtmbkjccckmlacaaDoor
open Go.RowKit
set_option linter.unusedVariables false
set_option linter.unusedSimpArgs false

def BfP (w : World) (L : List (Nat × Nat)) (e : Ending) (w' : World) : Prop := ∃ v, e = .returned (.tuple #[v, .int .i64 0]) ∧ RowEd w.heap.size v L w' ∧ Ext w w'
theorem befF_at {l : List Cl} {j k : Nat} (hj : j < l.length) (hk : k < l.length) : befF l k j = prc l[j] l[k] := by
  unfold befF; rw [List.getElem?_eq_getElem hj, List.getElem?_eq_getElem hk]
set_option maxRecDepth 100000 in
set_option maxHeartbeats 4000000 in
theorem Before_any (l : List Cl) (a : Option Addr) (c : Nat) (w : World) (h : HsAt w a l) (hl : l.length ≤ 100) (hok : ckH l = 0) :
    Calls Tryd.prog 26 #[.slice a l.length c] w (BfP w (bfR l)) := by
  have HC := Lib.hid (show Gives Tryd.prog 14 #[.slice a l.length c] w (.int .i64 0) from hok ▸ Check_any l a c w (by unfold maxLen; omega) h)
  have HH := Lib.hid (fun W (hW : Ext w W) => h.ext hW)
  clear h hok
  obtain ⟨len, hlen⟩ : ∃ n, l.length = n := ⟨_, rfl⟩
  have HL := Lib.hid hlen
  have HPe := Lib.hid (show bfP l len 0 = bfR l by rw [← hlen, bfP_end])
  have HPr := Lib.hid (fun j => show bfP l j len = bfP l (j + 1) 0 by rw [← hlen, bfP_row])
  have HPl := Lib.hid (fun j k (hj : j ≤ len) (hk : k ≤ len) => bfP_le l j k (by omega) (by omega) hl)
  rw [hlen] at hl HC ⊢
  clear hlen
  obtain ⟨Q0, hQ0⟩ : ∃ Q0, bfR l = Q0 := ⟨_, rfl⟩
  rw [hQ0] at HPe ⊢
  clear hQ0
  go_enter Tryd.func26, Tryd.ntmps26
  go_wp2_with fail
  refine HC.out.mono ?_
  intro w1 hB
  have HE1 := Lib.hid (show Ext w w1 from hB)
  have hz1 : w.heap.size ≤ w1.heap.size := hB.size
  clear hB
  go_wp2
  go_loopw [17, 5] (fun i v wr => ∃ j : Nat, j ≤ len ∧ i = .int .i64 (j : Int) ∧ RowEd w.heap.size v (bfP l j 0) wr ∧ Ext w wr) (fun i _ _ => len - (intOf i).toNat)
  case atStart => exact ⟨0, Nat.zero_le _, rfl, RowEd.nil _ _, HE1.out⟩
  case round =>
    obtain ⟨j, hj, rfl, hR, hE⟩ := hrel
    have HR := Lib.hid hR
    have HE := Lib.hid hE
    clear hR hE
    by_cases hlt : j < len
    · have hlt' : j < l.length := by rw [HL.out]; exact hlt
      have HLT := Lib.hid hlt'
      obtain ⟨b, off, rfl, c0, c1, c2, c3, c4, c5⟩ := HH.out wr HE.out j HLT.out
      have HBf := Lib.hid (fun k (hk : k < l.length) => befF_at HLT.out hk)
      clear hlt'
      generalize l[j]'HLT.out = x at *
      obtain ⟨wo, rfl⟩ : ∃ wo : World, wo = wr := ⟨_, rfl⟩
      obtain ⟨tk, me, ar, re, be, en⟩ := x
      dsimp only at *
      obtain ⟨w2, hw2⟩ : ∃ W, W = wo.alloc (cClO ⟨tk, me, ar, re, be, en⟩) := ⟨_, rfl⟩
      have HX2 := Lib.hid (show w2.heap[wo.heap.size]? = some (cClO ⟨tk, me, ar, re, be, en⟩) by rw [hw2]; exact alloc_here _ _)
      have HE2 := Lib.hid (show Ext wo w2 by rw [hw2]; exact ext_allocN _ _)
      go_wp2
      rw [← hw2]
      clear hw2
      go_loopw [24, 5] (fun i v wr => ∃ k : Nat, k ≤ len ∧ i = .int .i64 (k : Int) ∧ RowEd w.heap.size v (bfP l j k) wr ∧ Ext w wr ∧ wr.heap[wo.heap.size]? = some (cClO ⟨tk, me, ar, re, be, en⟩)) (fun i _ _ => len - (intOf i).toNat)
      case atStart => exact ⟨0, Nat.zero_le _, rfl, HR.out.ext HE2.out, Ext.trans HE.out HE2.out, HX2.out⟩
      case round =>
        obtain ⟨k, hk, rfl, hR, hE, hX⟩ := hrel
        have HR2 := Lib.hid hR
        have HE3 := Lib.hid hE
        have HX3 := Lib.hid hX
        have r5 := cell_of hX (i := 5) rfl
        have hxz : wo.heap.size < wr.heap.size := lt_of_block hX
        have hwz : w.heap.size ≤ wr.heap.size := hE.size
        clear hR hE hX
        by_cases hlk : k < len
        · have hlk' : k < l.length := by rw [HL.out]; exact hlk
          have HLK := Lib.hid hlk'
          obtain ⟨b', off', e', d0, d1, d2, d3, d4, d5⟩ := HH.out wr HE3.out k HLK.out
          obtain ⟨rfl, rfl⟩ : b = b' ∧ off = off' := by injection e' with e'; injection e' with e1 e2; exact ⟨e1, e2⟩
          have HBk := Lib.hid (HBf.out k HLK.out)
          have HS := Lib.hid (bfP_succ l j k)
          have HLn := Lib.hid (HPl.out j k hj hk)
          clear hlk' e'
          generalize l[k]'HLK.out = y at *
          obtain ⟨tk', me', ar', re', be', en'⟩ := y
          dsimp only at *
          by_cases h1 : en = -1
          · have g1 : (en != -1) = false := by simpa using h1
            have HS2 := Lib.hid (show bfP l j (k + 1) = bfP l j k by rw [HS.out, HBk.out]; simp [prc, h1])
            clear h1
            go_wp2
            go_roundw
            case rel => exact ⟨k + 1, by omega, by go_num, by rw [HS2.out]; exact HR2.out.ext (ext_allocN _ _), Ext.trans HE3.out (ext_allocN _ _), ((ext_allocN wr _).below.block _ hxz).trans HX3.out⟩
            case measure => simp [intOf]; omega
          · have g1 : (en != -1) = true := by simpa using h1
            by_cases h2 : en < be'
            · have g2 : decide (en < be') = true := by simpa using h2
              have HS2 := Lib.hid (show bfP l j (k + 1) = bfP l j k ++ [(j, k)] by rw [HS.out, HBk.out]; simp [prc, h1, h2])
              have HRA := Lib.hid (HR2.out.ext (ext_allocN wr (cClO ⟨tk', me', ar', re', be', en'⟩)))
              have HXA := Lib.hid (((ext_allocN wr (cClO ⟨tk', me', ar', re', be', en'⟩)).below.block _ hxz).trans HX3.out)
              have HEA := Lib.hid (Ext.trans HE3.out (ext_allocN wr (cClO ⟨tk', me', ar', re', be', en'⟩)))
              have hza : w.heap.size ≤ (wr.alloc (cClO ⟨tk', me', ar', re', be', en'⟩)).heap.size := HEA.out.size
              have hln : (bfP l j k).length ≤ 1000000000 := by have := HLn.out; omega
              clear h1 h2
              go_wp2_with (at_builtin; refine wp_appEd rfl _ _ rfl _ _ _ (by rfl) _ HRA.out (j, k) (wr.heap.size + 1) (by simp) (by rfl) hln hza ?_; intro v' w' hr' hb' hk'; have HR4 := Lib.hid hr'; have HB4 := Lib.hid hb'; have HK4 := Lib.hid hk'; clear hr' hb' hk')
              go_roundw
              case rel => exact ⟨k + 1, by omega, by go_num, by rw [HS2.out]; exact HR4.out, Below.trans HEA.out HB4.out, HK4.out.2 _ _ HXA.out (by intro c f e; cases e)⟩
              case measure => simp [intOf]; omega
            · have g2 : decide (en < be') = false := by simpa using h2
              have HS2 := Lib.hid (show bfP l j (k + 1) = bfP l j k by rw [HS.out, HBk.out]; simp [prc, h2])
              clear h1 h2
              go_wp2
              go_roundw
              case rel => exact ⟨k + 1, by omega, by go_num, by rw [HS2.out]; exact HR2.out.ext (ext_allocN _ _), Ext.trans HE3.out (ext_allocN _ _), ((ext_allocN wr _).below.block _ hxz).trans HX3.out⟩
              case measure => simp [intOf]; omega
        · have hkl : k = len := by omega
          subst k
          go_wp2
          go_roundw
          case rel => exact ⟨j + 1, by omega, by go_num, by rw [← HPr.out]; exact HR2.out, HE3.out⟩
          case measure => simp [intOf]; omega
    · have hjl : j = len := by omega
      subst j
      have HRl := Lib.hid (show RowEd w.heap.size _ Q0 wr by rw [← HPe.out]; exact HR.out)
      go_wp2
      go_ret2
      exact ⟨_, rfl, HRl.out, HE.out⟩
end Go.Proofs.YtmbkjccckmlacaaDoor

namespace Go.Proofs.YtmbkjccckmlacaaDoor
open Go.RowKit
set_option linter.unusedVariables false
set_option linter.unusedSimpArgs false

theorem ofInt_i64 (a : Nat) (ha : a < 9223372036854775808) : (BitVec.ofInt 64 (a : Int)).toNat = a := by
  rw [BitVec.ofInt_natCast, BitVec.toNat_ofNat]; exact Nat.mod_eq_of_lt (by omega)
theorem wrap_nat (a : Nat) (ha : a < 9223372036854775808) : IntKind.i64.wrap (a : Int) = (a : Int) := IntWalk.i64_in _ (by omega)
theorem i64_or (a b : Nat) (ha : a < 2 ^ 62) (hb : b < 2 ^ 62) : bits .or .i64 (a : Int) (b : Int) = ((a ||| b : Nat) : Int) := by
  have hx : a ||| b < 2 ^ 62 := Nat.or_lt_two_pow ha hb
  show IntKind.i64.wrap ((BitVec.ofInt 64 (a : Int) ||| BitVec.ofInt 64 (b : Int)).toNat : Int) = _
  rw [BitVec.toNat_or, ofInt_i64 a (by omega), ofInt_i64 b (by omega), wrap_nat _ (by omega)]
theorem i64_and (a b : Nat) (ha : a < 2 ^ 62) (hb : b < 2 ^ 62) : bits .and .i64 (a : Int) (b : Int) = ((a &&& b : Nat) : Int) := by
  have hx : a &&& b < 2 ^ 62 := Nat.and_lt_two_pow _ hb
  show IntKind.i64.wrap ((BitVec.ofInt 64 (a : Int) &&& BitVec.ofInt 64 (b : Int)).toNat : Int) = _
  rw [BitVec.toNat_and, ofInt_i64 a (by omega), ofInt_i64 b (by omega), wrap_nat _ (by omega)]
/-- what is in a and not in b -/
def andN (a b : Nat) : Nat := a ^^^ (a &&& b)
theorem andN_bit (a b j : Nat) : (andN a b).testBit j = (a.testBit j && !b.testBit j) := by
  unfold andN
  rw [Nat.testBit_xor, Nat.testBit_and]
  cases a.testBit j <;> cases b.testBit j <;> rfl
theorem andN_le {a b n : Nat} (ha : a < 2 ^ n) : andN a b < 2 ^ n := Nat.xor_lt_two_pow ha (Nat.lt_of_le_of_lt Nat.and_le_left ha)
theorem i64_andNot (a b : Nat) (ha : a < 2 ^ 62) (hb : b < 2 ^ 62) : bits .andNot .i64 (a : Int) (b : Int) = ((andN a b : Nat) : Int) := by
  have hx : andN a b < 2 ^ 62 := andN_le ha
  show IntKind.i64.wrap ((BitVec.ofInt 64 (a : Int) &&& ~~~ BitVec.ofInt 64 (b : Int)).toNat : Int) = _
  have e : (BitVec.ofInt 64 (a : Int) &&& ~~~ BitVec.ofInt 64 (b : Int)).toNat = andN a b := by
    apply Nat.eq_of_testBit_eq
    intro j
    rw [andN_bit, BitVec.testBit_toNat, BitVec.getLsbD_and, BitVec.getLsbD_not, ← BitVec.testBit_toNat, ← BitVec.testBit_toNat, ofInt_i64 a (by omega), ofInt_i64 b (by omega)]
    by_cases hj : j < 64
    · simp [hj]
    · have h2 : a < 2 ^ j := Nat.lt_of_lt_of_le ha (Nat.pow_le_pow_right (by omega) (by omega))
      rw [Nat.testBit_lt_two_pow h2]
      simp
  rw [e, wrap_nat _ (by omega)]
theorem andN_zero {a b n : Nat} (ha : a < 2 ^ n) : andN a b = 0 ↔ subM a b n = true := by
  rw [subM_iff]
  constructor
  · intro h j hj hb
    have := andN_bit a b j
    rw [h, hb] at this
    simpa using this
  · intro h
    apply Nat.eq_of_testBit_eq
    intro j
    rw [andN_bit, Nat.zero_testBit]
    by_cases hj : j < n
    · cases hb : a.testBit j with
      | false => rfl
      | true => rw [h j hj hb]; rfl
    · rw [Nat.testBit_lt_two_pow (Nat.lt_of_lt_of_le ha (Nat.pow_le_pow_right (by omega) (by omega)))]; rfl
theorem and_pow_zero (a i : Nat) : a &&& 2 ^ i = 0 ↔ a.testBit i = false := by
  constructor
  · intro h
    have : (a &&& 2 ^ i).testBit i = (0 : Nat).testBit i := by rw [h]
    simpa using this
  · intro h
    apply Nat.eq_of_testBit_eq
    intro j
    rw [Nat.testBit_and, Nat.testBit_two_pow, Nat.zero_testBit]
    by_cases hj : i = j
    · subst hj; simp [h]
    · simp [hj]
theorem pow_small {i : Nat} (h : i ≤ 40) : (2 : Nat) ^ i < 2 ^ 62 := Nat.pow_lt_pow_right (by omega) (by omega)
/-- 1 << i, as the walk meets it -/
theorem shl_one {i : Nat} (h : i ≤ 40) : IntKind.i64.wrap ((2 : Int) ^ i) = ((2 ^ i : Nat) : Int) := by
  have := wrap_nat (2 ^ i) (by have := pow_small h; omega)
  rw [← this]
  simp
end Go.Proofs.YtmbkjccckmlacaaDoor

namespace Go.Proofs.YtmbkjccckmlacaaDoor
open Go.RowKit
set_option linter.unusedVariables false

theorem getD_false (m j : Nat) : (Array.replicate m false).getD j false = false := by
  rcases Nat.lt_or_ge j m with h | h <;> simp [h]
/-- each edge leads back -/
def backB (l : List Oper) : Bool := l.zipIdx.all fun (o, i) => o.after.toList.all fun e => !Region.binds .any e || decide (e.on < i)
theorem backB_spec {l : List Oper} (h : backB l = true) {i : Nat} {o : Oper} (ho : l[i]? = some o) {e : Edge} (he : e ∈ o.after) (hb : Region.binds .any e = true) : e.on < i := by
  unfold backB at h
  rw [List.all_eq_true] at h
  have h1 := h (o, i) (List.mem_zipIdx_iff_getElem?.2 (by simpa using ho))
  simp only [List.all_eq_true, Bool.or_eq_true, Bool.not_eq_true', decide_eq_true_eq] at h1
  rcases h1 e (by simpa using he) with h2 | h2
  · rw [hb] at h2; cases h2
  · exact h2

/-- no slot is written twice -/
def uniqB (l : List Oper) : Bool := l.zipIdx.all fun (o, i) => l.zipIdx.all fun (p, j) => decide (i = j) || (o.dst.isNone || decide (o.dst ≠ p.dst))
theorem uniqB_spec {l : List Oper} (h : uniqB l = true) {i j : Nat} {o p : Oper} (ho : l[i]? = some o) (hp : l[j]? = some p) {d : Nat} (hd : o.dst = some d) (hd' : p.dst = some d) : i = j := by
  unfold uniqB at h
  rw [List.all_eq_true] at h
  have h1 := h (o, i) (List.mem_zipIdx_iff_getElem?.2 (by simpa using ho))
  rw [List.all_eq_true] at h1
  have h2 := h1 (p, j) (List.mem_zipIdx_iff_getElem?.2 (by simpa using hp))
  simpa [hd, hd'] using h2
/-- what holds at an operation: l the operations, w the world ahead of the region, a the frame ahead of it -/
structure At (l : List Oper) (Φ : Nat → Value → World → Prop) (a : Act) (w : World) (i : Nat) (o : Oper) (a' : Act) (W : World) : Prop where
  ext : Ext w W
  size : a'.tmps.size = a.tmps.size
  defers : a'.defers = a.defers
  /-- a slot that no operation of the region writes, or one that waits for this one -/
  old : ∀ d, (∀ (j : Nat) oj, l[j]? = some oj → oj.dst = some d → ∃ e ∈ oj.after, Region.binds .any e = true ∧ e.on = i) → a'.tmps.getD d undef = a.tmps.getD d undef
  /-- what this one waits for -/
  new : ∀ (j : Nat) oj d, l[j]? = some oj → oj.dst = some d → (∃ e ∈ o.after, Region.binds .any e = true ∧ e.on = j) → Φ j (a'.tmps.getD d undef) W

theorem At.get {l : List Oper} {Φ : Nat → Value → World → Prop} {a : Act} {w : World} {i : Nat} {o : Oper} {a' : Act} {W : World} (h : At l Φ a w i o a' W) (j d : Nat) (h1 : (l[j]?).bind (·.dst) = some d) (h2 : (o.after.toList.any fun e => Region.binds .any e && decide (e.on = j)) = true) : Φ j (a'.eval (.tmp d)) W := by
  obtain ⟨oj, hj, hd⟩ := Option.bind_eq_some_iff.1 h1
  obtain ⟨e, he, hb⟩ := List.any_eq_true.1 h2
  simp only [Bool.and_eq_true, decide_eq_true_eq] at hb
  exact h.new j oj d hj hd ⟨e, by simpa using he, hb.1, hb.2⟩
theorem At.keep {l : List Oper} {Φ : Nat → Value → World → Prop} {a : Act} {w : World} {i : Nat} {o : Oper} {a' : Act} {W : World} (h : At l Φ a w i o a' W) (d : Nat)
    (h1 : (l.all fun oj => decide (oj.dst ≠ some d) || oj.after.toList.any fun e => Region.binds .any e && decide (e.on = i)) = true) : a'.eval (.tmp d) = a.eval (.tmp d) := by
  refine h.old d (fun j oj hj hd => ?_)
  have := List.all_eq_true.1 h1 oj (List.mem_of_getElem? hj)
  simp only [Bool.or_eq_true, decide_eq_true_eq] at this
  rcases this with h2 | h2
  · exact absurd hd h2
  · obtain ⟨e, he, hb⟩ := List.any_eq_true.1 h2
    simp only [Bool.and_eq_true, decide_eq_true_eq] at hb
    exact ⟨e, by simpa using he, hb.1, hb.2⟩

/-- one operation -/
def Goes (P : Program) (l : List Oper) (Φ : Nat → Value → World → Prop) (i : Nat) (o : Oper) (a' : Act) (W : World) (Q : Exit → Act → World → Prop) : Prop :=
  if Region.wanted o (yielded l.toArray a'.tmps) then o.wp P a' W (fun a2 W2 => ∃ v, a2 = a'.put o.dst v ∧ Φ i v W2 ∧ Ext W W2) Q
  else Φ i undef W

structure Inv (l : List Oper) (Φ : Nat → Value → World → Prop) (a : Act) (w : World) (listed : Array Bool) (a' : Act) (W : World) : Prop where
  ext : Ext w W
  lsize : listed.size = l.length
  size : a'.tmps.size = a.tmps.size
  defers : a'.defers = a.defers
  old : ∀ d, (∀ (j : Nat) oj, l[j]? = some oj → oj.dst = some d → listed.getD j false = false) → a'.tmps.getD d undef = a.tmps.getD d undef
  new : ∀ (j : Nat) oj d, l[j]? = some oj → oj.dst = some d → listed.getD j false = true → Φ j (a'.tmps.getD d undef) W
  down : ∀ (j : Nat) oj, l[j]? = some oj → listed.getD j false = true → ∀ e ∈ oj.after, Region.binds .any e = true → listed.getD e.on false = true

theorem count_set (l : List Bool) (i : Nat) (h : l[i]? = some false) : (l.set i true).count false + 1 = l.count false := by
  induction l generalizing i with
  | nil => simp at h
  | cons b l ih =>
    cases i with
    | zero =>
      obtain rfl : b = false := by simpa using h
      simp
    | succ i =>
      have := ih i (by simpa using h)
      simp only [List.set_cons_succ, List.count_cons]
      omega

theorem all_listed {l : List Oper} (hback : backB l = true) {listed : Array Bool} (hs : listed.size = l.length) (h0 : Region.ready .any l.toArray listed = []) : ∀ i, i < l.length → listed.getD i false = true := by
  intro i
  induction i using Nat.strongRecOn with
  | ind i ih =>
    intro hi
    cases hl : listed.getD i false with
    | true => rfl
    | false =>
      exfalso
      have hm : i ∈ Region.ready .any l.toArray listed := by
        rw [mem_ready]
        refine ⟨?_, l[i], by simp [hi], fun e he hb => ?_⟩
        · have : i < listed.size := by omega
          simp only [Array.getD_eq_getD_getElem?, Array.getElem?_eq_getElem this, Option.getD_some] at hl ⊢
          exact hl
        · have := backB_spec hback (i := i) (o := l[i]) (by simp [hi]) he hb
          exact ih e.on this (by omega)
      rw [h0] at hm
      cases hm

theorem put_self {a : Act} {o : Option Tmp} {v : Value} {d : Nat} (h : o = some d) (hd : d < a.tmps.size) : (a.put o v).tmps.getD d undef = v := by
  subst h
  simp [Act.put, Array.getD_eq_getD_getElem?, hd]
theorem put_other {a : Act} {o : Option Tmp} {v : Value} {d : Nat} (h : o ≠ some d) : (a.put o v).tmps.getD d undef = a.tmps.getD d undef := by
  cases o with
  | none => rfl
  | some x =>
    have : x ≠ d := fun e => h (by rw [e])
    simp [Act.put, Array.getD_eq_getD_getElem?, Array.getElem?_setIfInBounds_ne this]
theorem put_size {a : Act} {o : Option Tmp} {v : Value} : (a.put o v).tmps.size = a.tmps.size := by
  cases o <;> simp [Act.put]
theorem put_defers {a : Act} {o : Option Tmp} {v : Value} : (a.put o v).defers = a.defers := by
  cases o <;> simp [Act.put]

theorem wp_region_rel {P : Program} {id : Nat} {Q : Exit → Act → World → Prop} {a : Act} {w : World} {l : List Oper} (hm : P.follows .mixedOrders = true)
    (Φ : Nat → Value → World → Prop) (hst : ∀ i v W W', Φ i v W → Ext W W' → Φ i v W')
    (hback : backB l = true) (hun : uniqB l = true) (hin : ∀ d ∈ l.filterMap (·.dst), d < a.tmps.size)
    (hstep : ∀ (i : Nat) o, l[i]? = some o → ∀ a' W, At l Φ a w i o a' W → Goes P l Φ i o a' W Q)
    (hend : ∀ a' W, Ext w W → a'.tmps.size = a.tmps.size → a'.defers = a.defers → (∀ d, d ∉ l.filterMap (·.dst) → a'.tmps.getD d undef = a.tmps.getD d undef) →
      (∀ (j : Nat) oj d, l[j]? = some oj → oj.dst = some d → Φ j (a'.tmps.getD d undef) W) → Q .normal a' W) :
    (Code.region id l.toArray true).wp P Q a w := by
  refine wp_region_any hm ?_
  have huniq : ∀ (i j : Nat) oi oj d, l[i]? = some oi → l[j]? = some oj → oi.dst = some d → oj.dst = some d → i = j := by
    intro i j oi oj d hi hj di dj
    exact uniqB_spec hun hi hj di dj
  have main : ∀ (fuel : Nat) (listed : Array Bool) (a' : Act) (W : World), listed.toList.count false = fuel → Inv l Φ a w listed a' W → wpAny P .any l.toArray Q fuel listed a' W := by
    intro fuel
    induction fuel with
    | zero =>
      intro listed a' W hc hI
      have hall : ∀ i, i < l.length → listed.getD i false = true := by
        intro i hi
        have hi' : i < listed.size := by rw [hI.lsize]; exact hi
        cases hb : listed.getD i false with
        | true => rfl
        | false =>
          exfalso
          have : false ∈ listed.toList := by
            simp only [Array.getD_eq_getD_getElem?, Array.getElem?_eq_getElem hi', Option.getD_some] at hb
            rw [← hb]; simp
          have := List.count_pos_iff.2 this
          omega
      have hr : Region.ready .any l.toArray listed = [] := by
        apply List.eq_nil_iff_forall_not_mem.2
        intro i hi
        rw [mem_ready] at hi
        obtain ⟨h1, o, ho, _⟩ := hi
        have hi' : i < l.length := by
          have := (Array.getElem?_eq_some_iff.1 ho).1
          simpa using this
        have h2 := hall i hi'
        have hi2 : i < listed.size := by rw [hI.lsize]; exact hi'
        simp only [Array.getD_eq_getD_getElem?, Array.getElem?_eq_getElem hi2, Option.getD_some] at h1 h2
        rw [h1] at h2; cases h2
      exact ⟨hr, hend a' W hI.ext hI.size hI.defers (fun d hd => hI.old d (fun j oj hj hd' => absurd (List.mem_filterMap.2 ⟨oj, List.mem_of_getElem? hj, hd'⟩) hd))
        (fun j oj d hj hd => hI.new j oj d hj hd (hall j (List.getElem?_eq_some_iff.1 hj).1))⟩
    | succ fuel ih =>
      intro listed a' W hc hI
      refine ⟨fun h0 => ?_, fun i hi => ?_⟩
      · have hall := all_listed hback hI.lsize h0
        exact hend a' W hI.ext hI.size hI.defers (fun d hd => hI.old d (fun j oj hj hd' => absurd (List.mem_filterMap.2 ⟨oj, List.mem_of_getElem? hj, hd'⟩) hd))
          (fun j oj d hj hd => hI.new j oj d hj hd (hall j (List.getElem?_eq_some_iff.1 hj).1))
      · obtain ⟨hl0, o, ho, hwait⟩ := mem_ready.1 hi
        have ho' : l[i]? = some o := by simpa using ho
        have hil : i < l.length := (List.getElem?_eq_some_iff.1 ho').1
        have hil' : i < listed.size := by rw [hI.lsize]; exact hil
        have hlf : listed.getD i false = false := by
          simp only [Array.getD_eq_getD_getElem?, Array.getElem?_eq_getElem hil', Option.getD_some] at hl0 ⊢
          exact hl0
        have hAt : At l Φ a w i o a' W := ⟨hI.ext, hI.size, hI.defers,
          fun d hd => hI.old d (fun j oj hj hdj => by
            obtain ⟨e, he, hb, hei⟩ := hd j oj hj hdj
            cases hlj : listed.getD j false with
            | false => rfl
            | true =>
              have := hI.down j oj hj hlj e he hb
              rw [hei, hlf] at this; cases this),
          fun j oj d hj hdj ⟨e, he, hb, hej⟩ => hI.new j oj d hj hdj (by rw [← hej]; exact hwait e he hb)⟩
        have hG := hstep i o ho' a' W hAt
        have hnext : ∀ v W2, Φ i v W2 → Ext W W2 → wpAny P .any l.toArray Q fuel (listed.setIfInBounds i true) (a'.put o.dst v) W2 := by
          intro v W2 hv hE
          refine ih _ _ _ ?_ ?_
          · have := count_set listed.toList i (by simp [hil']; simpa [Array.getD_eq_getD_getElem?, hil'] using hlf)
            rw [Array.toList_setIfInBounds]; omega
          · have hset : ∀ j, j ≠ i → (listed.setIfInBounds i true).getD j false = listed.getD j false := fun j hj => getD_set_ne false (Ne.symm hj)
            refine ⟨hI.ext.trans hE, by simpa using hI.lsize, by rw [put_size]; exact hI.size, by rw [put_defers]; exact hI.defers, ?_, ?_, ?_⟩
            · intro d hd
              have hne : o.dst ≠ some d := fun e => by
                have := hd i o ho' e
                simp [Array.getD_eq_getD_getElem?, hil'] at this
              rw [put_other hne]
              refine hI.old d (fun j oj hj hdj => ?_)
              by_cases hji : j = i
              · subst hji; exact hlf
              · have := hd j oj hj hdj
                rwa [hset j hji] at this
            · intro j oj d hj hdj hlj
              by_cases hji : j = i
              · subst hji
                rw [ho'] at hj; cases hj
                rw [put_self hdj (by rw [hI.size]; exact hin d (List.mem_filterMap.2 ⟨o, List.mem_of_getElem? ho', hdj⟩))]
                exact hv
              · rw [hset j hji] at hlj
                rw [put_other (fun e => hji (huniq j i oj o d hj ho' hdj e))]
                exact hst _ _ _ _ (hI.new j oj d hj hdj hlj) hE
            · intro j oj hj hlj e he hb
              by_cases hji : j = i
              · subst hji
                rw [ho'] at hj; cases hj
                exact getD_set_true (hwait e he hb)
              · rw [hset j hji] at hlj
                exact getD_set_true (hI.down j oj hj hlj e he hb)
        unfold wpOp
        rw [show l.toArray[i]? = some o by simpa using ho']
        unfold Goes at hG
        by_cases hwant : Region.wanted o (yielded l.toArray a'.tmps) = true
        · rw [if_pos hwant] at hG
          simp only [hwant, if_true]
          exact .inl (Oper.wp_mono (fun a2 W2 ⟨v, e, hv, hE⟩ => by rw [e]; exact hnext v W2 hv hE) hG)
        · rw [if_neg hwant] at hG
          simp only [hwant]
          exact hnext undef W hG (Below.refl _ _)
  have h0 := main l.length (Array.replicate l.length false) a { w with drawn := w.drawn + 1 } (by simp)
    ⟨(⟨rfl, rfl, rfl, Nat.le_refl _, fun _ _ => rfl⟩ : Ext w { w with drawn := w.drawn + 1 }), by simp, rfl, rfl, fun _ _ => rfl, (fun j oj d _ _ h => by rw [getD_false] at h; cases h), (fun j oj _ h => by rw [getD_false] at h; cases h)⟩
  simpa using h0

/-- the frame behind the region, its values given -/
def putAll : List Oper → List Value → Act → Act
  | o :: l, v :: vs, a => putAll l vs (a.put o.dst v)
  | _, _, a => a
theorem putAll_size : ∀ (l : List Oper) (vs : List Value) (a : Act), (putAll l vs a).tmps.size = a.tmps.size
  | [], _, _ => rfl
  | _ :: _, [], _ => rfl
  | o :: l, v :: vs, a => by rw [putAll, putAll_size l vs, put_size]
theorem putAll_defers : ∀ (l : List Oper) (vs : List Value) (a : Act), (putAll l vs a).defers = a.defers
  | [], _, _ => rfl
  | _ :: _, [], _ => rfl
  | o :: l, v :: vs, a => by rw [putAll, putAll_defers l vs, put_defers]
theorem putAll_other : ∀ (l : List Oper) (vs : List Value) (a : Act) (d : Nat), (∀ o ∈ l, o.dst ≠ some d) → (putAll l vs a).tmps.getD d undef = a.tmps.getD d undef
  | [], _, _, _, _ => rfl
  | _ :: _, [], _, _, _ => rfl
  | o :: l, v :: vs, a, d, h => by
    rw [putAll, putAll_other l vs _ d (fun o' ho' => h o' (List.mem_cons_of_mem _ ho')), put_other (h o (List.mem_cons_self ..))]
theorem putAll_self : ∀ (l : List Oper) (vs : List Value) (a : Act) (j : Nat) (o : Oper) (d : Nat), vs.length = l.length → l[j]? = some o → o.dst = some d → (∀ (i : Nat) p, l[i]? = some p → p.dst = some d → i = j) → d < a.tmps.size →
    (putAll l vs a).tmps.getD d undef = vs.getD j undef
  | [], _, _, j, _, _, _, h, _, _, _ => by simp at h
  | _ :: _, [], _, _, _, _, hl, _, _, _, _ => by simp at hl
  | o :: l, v :: vs, a, 0, p, d, hl, h, hd, hu, hs => by
    obtain rfl : o = p := by simpa using h
    rw [putAll, putAll_other l vs _ d (fun q hq e => by
      obtain ⟨i, hi⟩ := List.getElem?_of_mem hq
      have := hu (i + 1) q (by simpa using hi) e
      omega), put_self hd hs]
    rfl
  | o :: l, v :: vs, a, j + 1, p, d, hl, h, hd, hu, hs => by
    rw [putAll, putAll_self l vs _ j p d (by simpa using hl) (by simpa using h) hd (fun i q hq e => by
      have := hu (i + 1) q (by simpa using hq) e
      omega) (by rw [put_size]; exact hs)]
    rfl

theorem act_eq {a b : Act} (hs : a.tmps.size = b.tmps.size) (hd : a.defers = b.defers) (h : ∀ d, d < a.tmps.size → a.tmps.getD d undef = b.tmps.getD d undef) : a = b := by
  obtain ⟨ta, da⟩ := a
  obtain ⟨tb, db⟩ := b
  simp only at hs hd h
  have : ta = tb := by
    apply Array.ext hs
    intro i h1 h2
    have := h i h1
    simpa [Array.getD_eq_getD_getElem?, h1, h2] using this
  rw [this, hd]

/-- the theorem, its end with the values named -/
theorem wp_region_vals {P : Program} {id : Nat} {Q : Exit → Act → World → Prop} {a : Act} {w : World} {l : List Oper} (hm : P.follows .mixedOrders = true)
    (Φ : Nat → Value → World → Prop) (hst : ∀ i v W W', Φ i v W → Ext W W' → Φ i v W')
    (hback : backB l = true) (hun : uniqB l = true) (N : Nat) (hN : a.tmps.size = N) (hinB : ((l.filterMap (·.dst)).all fun d => decide (d < N)) = true) (hall : l.all (·.dst.isSome) = true)
    (hstep : ∀ (i : Nat) o, l[i]? = some o → ∀ a' W, At l Φ a w i o a' W → Goes P l Φ i o a' W Q)
    (hend : ∀ (vs : List Value) W, vs.length = l.length → Ext w W → (∀ j, j < l.length → Φ j (vs.getD j undef) W) → Q .normal (putAll l vs a) W) :
    (Code.region id l.toArray true).wp P Q a w := by
  have hin : ∀ d ∈ l.filterMap (·.dst), d < a.tmps.size := fun d hd => by rw [hN]; exact of_decide_eq_true (List.all_eq_true.1 hinB d hd)
  refine wp_region_rel hm Φ hst hback hun hin hstep ?_
  intro a' W hE hs hd hold hnew
  have hsome : ∀ (j : Nat) o, l[j]? = some o → ∃ d, o.dst = some d := fun j o ho => by
    have := (List.all_eq_true.1 hall) o (List.mem_of_getElem? ho)
    exact Option.isSome_iff_exists.1 this
  have e : a' = putAll l (l.map fun o => a'.tmps.getD (o.dst.getD 0) undef) a := by
    refine act_eq (by rw [putAll_size]; exact hs) (by rw [putAll_defers]; exact hd) ?_
    intro d hlt
    by_cases hm : d ∈ l.filterMap (·.dst)
    · obtain ⟨o, ho, hod⟩ := List.mem_filterMap.1 hm
      obtain ⟨j, hj⟩ := List.getElem?_of_mem ho
      rw [putAll_self l _ a j o d (by simp) hj hod (fun i p hp e => uniqB_spec hun hp hj e hod) (by rw [← hs]; exact hlt)]
      rw [List.getD_eq_getElem?_getD, List.getElem?_map, hj]
      simp [hod]
    · rw [putAll_other l _ a d (fun o ho e => hm (List.mem_filterMap.2 ⟨o, ho, e⟩))]
      exact hold d hm
  rw [e]
  refine hend _ W (by simp) hE (fun j hj => ?_)
  obtain ⟨d, hdd⟩ := hsome j l[j] (by simp [hj])
  have := hnew j l[j] d (by simp [hj]) hdd
  rw [List.getD_eq_getElem?_getD, List.getElem?_map]
  simpa [hj, hdd] using this

theorem Goes.value {P : Program} {l : List Oper} {Φ : Nat → Value → World → Prop} {i : Nat} {o : Oper} {a' : Act} {W W' : World} {Q : Exit → Act → World → Prop} (v : Value) (hg : o.guard = none) (hrun : (execOp a'.eval o).run P W = .ok (.value v) W') (hΦ : Φ i v W') (hE : Ext W W') : Goes P l Φ i o a' W Q := by
  unfold Goes
  rw [if_pos (by simp [Region.wanted, hg])]
  unfold Oper.wp
  rw [hrun]
  exact ⟨v, rfl, hΦ, hE⟩
theorem Goes.move {P : Program} {l : List Oper} {Φ : Nat → Value → World → Prop} {i : Nat} {o : Oper} {a' : Act} {W : World} {Q : Exit → Act → World → Prop} (x : Operand) (hg : o.guard = none) (hop : o.op = .move x) (hΦ : Φ i (a'.eval x) W) : Goes P l Φ i o a' W Q :=
  Goes.value _ hg (BigFrame.run_move x hop _) hΦ (Below.refl _ _)
theorem Goes.call {P : Program} {l : List Oper} {Φ : Nat → Value → World → Prop} {i : Nat} {o : Oper} {a' : Act} {W : World} {Q : Exit → Act → World → Prop} (f : FuncId) (args : Array Value) (v : Value) (hg : o.guard = none) (hrun : (execOp a'.eval o).run P W = .ok (.enter f args) W) (hc : Gives P f args W v) (hΦ : ∀ W', Ext W W' → Φ i v W') : Goes P l Φ i o a' W Q := by
  unfold Goes
  rw [if_pos (by simp [Region.wanted, hg])]
  unfold Oper.wp
  rw [hrun]
  exact hc.mono fun W' hb => ⟨v, rfl, hΦ W' hb, hb⟩

end Go.Proofs.YtmbkjccckmlacaaDoor

namespace Go.Proofs.YtmbkjccckmlacaaDoor
open Go.RowKit
set_option linter.unusedVariables false

/-- operation j waits for operation i, within n steps -/
def ancB (l : List Oper) : Nat → Nat → Nat → Bool
  | 0, _, _ => false
  | n + 1, j, i => match l[j]? with
    | none => false
    | some o => o.after.toList.any fun e => Region.binds .any e && (decide (e.on = i) || ancB l n e.on i)
/-- the values that the operations have yielded -/
def sv (l : List Oper) (a : Act) (j : Nat) : Value := match (l[j]?).bind (·.dst) with | none => undef | some d => a.tmps.getD d undef
theorem sv_dst {l : List Oper} {a : Act} {j d : Nat} (h : (l[j]?).bind (·.dst) = some d) : sv l a j = a.eval (.tmp d) := by
  unfold sv; rw [h]; rfl

structure AtG (l : List Oper) (R : World → World → Prop) (Φ : Nat → (Nat → Value) → World → Prop) (a : Act) (w : World) (i : Nat) (o : Oper) (a' : Act) (W : World) : Prop where
  rel : R w W
  size : a'.tmps.size = a.tmps.size
  defers : a'.defers = a.defers
  old : ∀ d, (∀ (j : Nat) oj, l[j]? = some oj → oj.dst = some d → ancB l l.length j i = true) → a'.tmps.getD d undef = a.tmps.getD d undef
  new : ∀ j, j < l.length → ancB l l.length i j = true → Φ j (sv l a') W

theorem AtG.keep {l : List Oper} {R : World → World → Prop} {Φ : Nat → (Nat → Value) → World → Prop} {a : Act} {w : World} {i : Nat} {o : Oper} {a' : Act} {W : World} (h : AtG l R Φ a w i o a' W) (d : Nat)
    (h1 : (l.zipIdx.all fun (oj, j) => decide (oj.dst ≠ some d) || ancB l l.length j i) = true) : a'.eval (.tmp d) = a.eval (.tmp d) := by
  refine h.old d (fun j oj hj hd => ?_)
  have := List.all_eq_true.1 h1 (oj, j) (List.mem_zipIdx_iff_getElem?.2 (by simpa using hj))
  simp only [Bool.or_eq_true, decide_eq_true_eq] at this
  rcases this with h2 | h2
  · exact absurd hd h2
  · exact h2

/-- one operation -/
def GoesG (P : Program) (l : List Oper) (R : World → World → Prop) (Φ : Nat → (Nat → Value) → World → Prop) (i : Nat) (o : Oper) (a' : Act) (W : World) (Q : Exit → Act → World → Prop) : Prop :=
  if Region.wanted o (yielded l.toArray a'.tmps) then
    o.wp P a' W (fun a2 W2 => ∃ v, a2 = a'.put o.dst v ∧ R W W2 ∧ ∀ s : Nat → Value, (o.dst.isSome = true → s i = v) → (∀ k, k ≠ i → ancB l l.length i k = true → s k = sv l a' k) → Φ i s W2) Q
  else R W W ∧ ∀ s : Nat → Value, (o.dst.isSome = true → s i = undef) → (∀ k, k ≠ i → ancB l l.length i k = true → s k = sv l a' k) → Φ i s W

theorem anc_back {l : List Oper} (hb : backB l = true) : ∀ n j i, ancB l n j i = true → i < j
  | 0, _, _, h => by simp [ancB] at h
  | n + 1, j, i, h => by
    unfold ancB at h
    split at h
    · cases h
    · rename_i o ho
      obtain ⟨e, he, hh⟩ := List.any_eq_true.1 h
      simp only [Bool.and_eq_true, Bool.or_eq_true, decide_eq_true_eq] at hh
      have h1 := backB_spec hb ho (by simpa using he) hh.1
      rcases hh.2 with h2 | h2
      · omega
      · have := anc_back hb n e.on i h2; omega

/-- the operations that are listed are closed under what they wait for -/
def downC (l : List Oper) (listed : Array Bool) : Prop := ∀ (j : Nat) oj, l[j]? = some oj → listed.getD j false = true → ∀ e ∈ oj.after, Region.binds .any e = true → listed.getD e.on false = true
theorem downC.anc {l : List Oper} {listed : Array Bool} (h : downC l listed) : ∀ n j i, listed.getD j false = true → ancB l n j i = true → listed.getD i false = true
  | 0, _, _, _, h => by simp [ancB] at h
  | n + 1, j, i, hj, ha => by
    unfold ancB at ha
    split at ha
    · cases ha
    · rename_i o ho
      obtain ⟨e, he, hh⟩ := List.any_eq_true.1 ha
      simp only [Bool.and_eq_true, Bool.or_eq_true, decide_eq_true_eq] at hh
      have h1 := h j o ho hj e (by simpa using he) hh.1
      rcases hh.2 with h2 | h2
      · rw [← h2]; exact h1
      · exact downC.anc h n e.on i h1 h2

/-- what an operation's predicate reads: itself, and what it waits for -/
def readsB (l : List Oper) (D : Nat → List Nat) : Bool := (List.range l.length).all fun j => (D j).all fun k => decide (k = j) || ancB l l.length j k

structure InvG (l : List Oper) (R : World → World → Prop) (Φ : Nat → (Nat → Value) → World → Prop) (a : Act) (w : World) (listed : Array Bool) (a' : Act) (W : World) : Prop where
  rel : R w W
  lsize : listed.size = l.length
  size : a'.tmps.size = a.tmps.size
  defers : a'.defers = a.defers
  old : ∀ d, (∀ (j : Nat) oj, l[j]? = some oj → oj.dst = some d → listed.getD j false = false) → a'.tmps.getD d undef = a.tmps.getD d undef
  new : ∀ j, j < l.length → listed.getD j false = true → Φ j (sv l a') W
  down : downC l listed

theorem sv_put_self {l : List Oper} {a : Act} {i : Nat} {o : Oper} {v : Value} (ho : l[i]? = some o) (hin : ∀ d ∈ l.filterMap (·.dst), d < a.tmps.size) (hd : o.dst.isSome = true) : sv l (a.put o.dst v) i = v := by
  obtain ⟨d, hd⟩ := Option.isSome_iff_exists.1 hd
  unfold sv
  rw [ho]
  simp only [Option.bind_some, hd]
  exact put_self (o := some d) rfl (hin d (List.mem_filterMap.2 ⟨o, List.mem_of_getElem? ho, hd⟩))
theorem sv_put_other {l : List Oper} {a : Act} {i j : Nat} {o : Oper} {v : Value} (hun : uniqB l = true) (ho : l[i]? = some o) (hji : j ≠ i) : sv l (a.put o.dst v) j = sv l a j := by
  unfold sv
  split
  · rfl
  · rename_i d hd
    obtain ⟨oj, hj, hdj⟩ := Option.bind_eq_some_iff.1 hd
    exact put_other (fun e => hji (uniqB_spec hun hj ho hdj e))

theorem wp_region_gen {P : Program} {id : Nat} {Q : Exit → Act → World → Prop} {a : Act} {w : World} {l : List Oper} (hm : P.follows .mixedOrders = true)
    (R : World → World → Prop) (hR0 : ∀ W : World, R W { W with drawn := W.drawn + 1 }) (hRt : ∀ {A B C}, R A B → R B C → R A C)
    (Φ : Nat → (Nat → Value) → World → Prop) (D : Nat → List Nat) (hst : ∀ j s s' W W', Φ j s W → (∀ k ∈ D j, s' k = s k) → R W W' → Φ j s' W')
    (hback : backB l = true) (hun : uniqB l = true) (hreads : readsB l D = true) (hin : ∀ d ∈ l.filterMap (·.dst), d < a.tmps.size)
    (hstep : ∀ (i : Nat) o, l[i]? = some o → ∀ a' W, AtG l R Φ a w i o a' W → GoesG P l R Φ i o a' W Q)
    (hend : ∀ a' W, R w W → a'.tmps.size = a.tmps.size → a'.defers = a.defers → (∀ d, d ∉ l.filterMap (·.dst) → a'.tmps.getD d undef = a.tmps.getD d undef) →
      (∀ j, j < l.length → Φ j (sv l a') W) → Q .normal a' W) :
    (Code.region id l.toArray true).wp P Q a w := by
  refine wp_region_any hm ?_
  have main : ∀ (fuel : Nat) (listed : Array Bool) (a' : Act) (W : World), listed.toList.count false = fuel → InvG l R Φ a w listed a' W → wpAny P .any l.toArray Q fuel listed a' W := by
    intro fuel
    induction fuel with
    | zero =>
      intro listed a' W hc hI
      have hall : ∀ i, i < l.length → listed.getD i false = true := by
        intro i hi
        have hi' : i < listed.size := by rw [hI.lsize]; exact hi
        cases hb : listed.getD i false with
        | true => rfl
        | false =>
          exfalso
          have : false ∈ listed.toList := by
            simp only [Array.getD_eq_getD_getElem?, Array.getElem?_eq_getElem hi', Option.getD_some] at hb
            rw [← hb]; simp
          have := List.count_pos_iff.2 this
          omega
      have hr : Region.ready .any l.toArray listed = [] := by
        apply List.eq_nil_iff_forall_not_mem.2
        intro i hi
        rw [mem_ready] at hi
        obtain ⟨h1, o, ho, _⟩ := hi
        have hi' : i < l.length := by
          have := (Array.getElem?_eq_some_iff.1 ho).1
          simpa using this
        have h2 := hall i hi'
        have hi2 : i < listed.size := by rw [hI.lsize]; exact hi'
        simp only [Array.getD_eq_getD_getElem?, Array.getElem?_eq_getElem hi2, Option.getD_some] at h1 h2
        rw [h1] at h2; cases h2
      exact ⟨hr, hend a' W hI.rel hI.size hI.defers (fun d hd => hI.old d (fun j oj hj hd' => absurd (List.mem_filterMap.2 ⟨oj, List.mem_of_getElem? hj, hd'⟩) hd)) (fun j hj => hI.new j hj (hall j hj))⟩
    | succ fuel ih =>
      intro listed a' W hc hI
      refine ⟨fun h0 => ?_, fun i hi => ?_⟩
      · have hall := all_listed hback hI.lsize h0
        exact hend a' W hI.rel hI.size hI.defers (fun d hd => hI.old d (fun j oj hj hd' => absurd (List.mem_filterMap.2 ⟨oj, List.mem_of_getElem? hj, hd'⟩) hd)) (fun j hj => hI.new j hj (hall j hj))
      · obtain ⟨hl0, o, ho, hwait⟩ := mem_ready.1 hi
        have ho' : l[i]? = some o := by simpa using ho
        have hil : i < l.length := (List.getElem?_eq_some_iff.1 ho').1
        have hil' : i < listed.size := by rw [hI.lsize]; exact hil
        have hlf : listed.getD i false = false := by
          simp only [Array.getD_eq_getD_getElem?, Array.getElem?_eq_getElem hil', Option.getD_some] at hl0 ⊢
          exact hl0
        have hanc : ∀ n k, ancB l n i k = true → listed.getD k false = true := by
          intro n k hk
          cases n with
          | zero => simp [ancB] at hk
          | succ n =>
            unfold ancB at hk
            rw [ho'] at hk
            obtain ⟨e, he, hh⟩ := List.any_eq_true.1 hk
            simp only [Bool.and_eq_true, Bool.or_eq_true, decide_eq_true_eq] at hh
            have h1 := hwait e (by simpa using he) hh.1
            rcases hh.2 with h2 | h2
            · rw [← h2]; exact h1
            · exact hI.down.anc n e.on k h1 h2
        have hAt : AtG l R Φ a w i o a' W := ⟨hI.rel, hI.size, hI.defers,
          fun d hd => hI.old d (fun j oj hj hdj => by
            have hji := hd j oj hj hdj
            cases hlj : listed.getD j false with
            | false => rfl
            | true =>
              have := hI.down.anc _ j i hlj hji
              rw [hlf] at this; cases this),
          fun j hj ha => hI.new j hj (hanc _ j ha)⟩
        have hG := hstep i o ho' a' W hAt
        have hnext : ∀ v W2, R W W2 → (∀ s : Nat → Value, (o.dst.isSome = true → s i = v) → (∀ k, k ≠ i → ancB l l.length i k = true → s k = sv l a' k) → Φ i s W2) → wpAny P .any l.toArray Q fuel (listed.setIfInBounds i true) (a'.put o.dst v) W2 := by
          intro v W2 hR hv
          have hin' : ∀ d ∈ l.filterMap (·.dst), d < a'.tmps.size := fun d hd => by rw [hI.size]; exact hin d hd
          refine ih _ _ _ ?_ ?_
          · have := count_set listed.toList i (by simp [hil']; simpa [Array.getD_eq_getD_getElem?, hil'] using hlf)
            rw [Array.toList_setIfInBounds]; omega
          · have hset : ∀ j, j ≠ i → (listed.setIfInBounds i true).getD j false = listed.getD j false := fun j hj => getD_set_ne false (Ne.symm hj)
            refine ⟨hRt hI.rel hR, by simpa using hI.lsize, by rw [put_size]; exact hI.size, by rw [put_defers]; exact hI.defers, ?_, ?_, ?_⟩
            · intro d hd
              have hne : o.dst ≠ some d := fun e => by
                have := hd i o ho' e
                simp [Array.getD_eq_getD_getElem?, hil'] at this
              rw [put_other hne]
              refine hI.old d (fun j oj hj hdj => ?_)
              by_cases hji : j = i
              · subst hji; exact hlf
              · have := hd j oj hj hdj
                rwa [hset j hji] at this
            · intro j hj hlj
              by_cases hji : j = i
              · subst hji
                exact hv _ (fun hd => sv_put_self ho' hin' hd) (fun k hk _ => sv_put_other hun ho' hk)
              · rw [hset j hji] at hlj
                refine hst j _ _ _ _ (hI.new j hj hlj) (fun k hk => sv_put_other hun ho' ?_) hR
                rintro rfl
                have h1 := List.all_eq_true.1 (List.all_eq_true.1 hreads j (List.mem_range.2 hj)) k hk
                simp only [Bool.or_eq_true, decide_eq_true_eq] at h1
                rcases h1 with h1 | h1
                · exact hji h1.symm
                · have := hI.down.anc _ j k hlj h1
                  rw [hlf] at this; cases this
            · intro j oj hj hlj e he hb
              by_cases hji : j = i
              · subst hji
                rw [ho'] at hj; cases hj
                exact getD_set_true (hwait e he hb)
              · rw [hset j hji] at hlj
                exact getD_set_true (hI.down j oj hj hlj e he hb)
        unfold wpOp
        rw [show l.toArray[i]? = some o by simpa using ho']
        unfold GoesG at hG
        by_cases hwant : Region.wanted o (yielded l.toArray a'.tmps) = true
        · rw [if_pos hwant] at hG
          simp only [hwant, if_true]
          exact .inl (Oper.wp_mono (fun a2 W2 ⟨v, e, hR, hv⟩ => by rw [e]; exact hnext v W2 hR hv) hG)
        · rw [if_neg hwant] at hG
          simp only [hwant]
          exact hnext undef W hG.1 hG.2
  have h0 := main l.length (Array.replicate l.length false) a { w with drawn := w.drawn + 1 } (by simp)
    ⟨hR0 w, by simp, rfl, rfl, fun _ _ => rfl, (fun j _ h => by rw [getD_false] at h; cases h), (fun j oj _ h => by rw [getD_false] at h; cases h)⟩
  simpa using h0

theorem putAll_val {l : List Oper} {a : Act} {vs : List Value} (hun : uniqB l = true) (hlen : vs.length = l.length) (hin : ∀ d ∈ l.filterMap (·.dst), d < a.tmps.size) (j : Nat) (o : Oper) (hj : l[j]? = some o) (hd : o.dst.isSome = true) : sv l (putAll l vs a) j = vs.getD j undef := by
  obtain ⟨d, hd⟩ := Option.isSome_iff_exists.1 hd
  unfold sv
  rw [hj]
  simp only [Option.bind_some, hd]
  exact putAll_self l vs a j o d hlen hj hd (fun i p hp e => uniqB_spec hun hp hj e hd) (hin d (List.mem_filterMap.2 ⟨o, List.mem_of_getElem? hj, hd⟩))

/-- the theorem, its end with the values named -/
theorem wp_region_g {P : Program} {id : Nat} {Q : Exit → Act → World → Prop} {a : Act} {w : World} {l : List Oper} (hm : P.follows .mixedOrders = true)
    (R : World → World → Prop) (hR0 : ∀ W : World, R W { W with drawn := W.drawn + 1 }) (hRt : ∀ {A B C}, R A B → R B C → R A C)
    (Φ : Nat → (Nat → Value) → World → Prop) (D : Nat → List Nat) (hst : ∀ j s s' W W', Φ j s W → (∀ k ∈ D j, s' k = s k) → R W W' → Φ j s' W')
    (hback : backB l = true) (hun : uniqB l = true) (hreads : readsB l D = true) (N : Nat) (hN : a.tmps.size = N) (hinB : ((l.filterMap (·.dst)).all fun d => decide (d < N)) = true)
    (hstep : ∀ (i : Nat) o, l[i]? = some o → ∀ a' W, AtG l R Φ a w i o a' W → GoesG P l R Φ i o a' W Q)
    (hend : ∀ (vs : List Value) W, vs.length = l.length → R w W → (∀ j, j < l.length → Φ j (fun k => vs.getD k undef) W) → Q .normal (putAll l vs a) W) :
    (Code.region id l.toArray true).wp P Q a w := by
  have hin : ∀ d ∈ l.filterMap (·.dst), d < a.tmps.size := fun d hd => by rw [hN]; exact of_decide_eq_true (List.all_eq_true.1 hinB d hd)
  refine wp_region_gen hm R hR0 hRt Φ D hst hback hun hreads hin hstep ?_
  intro a' W hE hs hd hold hnew
  have e : a' = putAll l (l.map fun o => match o.dst with | none => undef | some d => a'.tmps.getD d undef) a := by
    refine act_eq (by rw [putAll_size]; exact hs) (by rw [putAll_defers]; exact hd) ?_
    intro d hlt
    by_cases hm : d ∈ l.filterMap (·.dst)
    · obtain ⟨o, ho, hod⟩ := List.mem_filterMap.1 hm
      obtain ⟨j, hj⟩ := List.getElem?_of_mem ho
      rw [putAll_self l _ a j o d (by simp) hj hod (fun i p hp e => uniqB_spec hun hp hj e hod) (by rw [← hs]; exact hlt)]
      rw [List.getD_eq_getElem?_getD, List.getElem?_map, hj]
      simp [hod]
    · rw [putAll_other l _ a d (fun o ho e => hm (List.mem_filterMap.2 ⟨o, ho, e⟩))]
      exact hold d hm
  have hsv : (fun k => (l.map fun o => match o.dst with | none => undef | some d => a'.tmps.getD d undef).getD k undef) = sv l a' := by
    funext k
    unfold sv
    rw [List.getD_eq_getElem?_getD, List.getElem?_map]
    cases hk : l[k]? with
    | none => rfl
    | some o => cases hod : o.dst <;> simp [hod]
  rw [e]
  refine hend _ W (by simp) hE (fun j hj => ?_)
  rw [hsv]
  exact hnew j hj

/-- an operation that yields a value -/
theorem GoesG.value {P : Program} {l : List Oper} {R : World → World → Prop} {Φ : Nat → (Nat → Value) → World → Prop} {i : Nat} {o : Oper} {a' : Act} {W W' : World} {Q : Exit → Act → World → Prop} (v : Value) (hg : o.guard = none) (hrun : (execOp a'.eval o).run P W = .ok (.value v) W') (hR : R W W')
    (hΦ : ∀ s : Nat → Value, (o.dst.isSome = true → s i = v) → (∀ k, k ≠ i → ancB l l.length i k = true → s k = sv l a' k) → Φ i s W') : GoesG P l R Φ i o a' W Q := by
  unfold GoesG
  rw [if_pos (by simp [Region.wanted, hg])]
  unfold Oper.wp
  rw [hrun]
  exact ⟨v, rfl, hR, hΦ⟩
theorem GoesG.skip {P : Program} {l : List Oper} {R : World → World → Prop} {Φ : Nat → (Nat → Value) → World → Prop} {i : Nat} {o : Oper} {a' : Act} {W W' : World} {Q : Exit → Act → World → Prop} (hg : o.guard = none) (hrun : (execOp a'.eval o).run P W = .ok .skip W') (hR : R W W')
    (hΦ : ∀ s : Nat → Value, (o.dst.isSome = true → s i = undef) → (∀ k, k ≠ i → ancB l l.length i k = true → s k = sv l a' k) → Φ i s W') : GoesG P l R Φ i o a' W Q := by
  unfold GoesG
  rw [if_pos (by simp [Region.wanted, hg])]
  unfold Oper.wp
  rw [hrun]
  exact ⟨undef, rfl, hR, hΦ⟩
theorem GoesG.move {P : Program} {l : List Oper} {R : World → World → Prop} {Φ : Nat → (Nat → Value) → World → Prop} {i : Nat} {o : Oper} {a' : Act} {W : World} {Q : Exit → Act → World → Prop} (x : Operand) (hg : o.guard = none) (hop : o.op = .move x) (hR : R W W)
    (hΦ : ∀ s : Nat → Value, (o.dst.isSome = true → s i = a'.eval x) → (∀ k, k ≠ i → ancB l l.length i k = true → s k = sv l a' k) → Φ i s W) : GoesG P l R Φ i o a' W Q :=
  GoesG.value _ hg (BigFrame.run_move x hop _) hR hΦ
theorem GoesG.assign {P : Program} {l : List Oper} {R : World → World → Prop} {Φ : Nat → (Nat → Value) → World → Prop} {i : Nat} {o : Oper} {a' : Act} {W : World} {Q : Exit → Act → World → Prop} (x : Operand) (hg : o.guard = none) (hop : o.op = .assign x) (hR : R W W)
    (hΦ : ∀ s : Nat → Value, (o.dst.isSome = true → s i = a'.eval x) → (∀ k, k ≠ i → ancB l l.length i k = true → s k = sv l a' k) → Φ i s W) : GoesG P l R Φ i o a' W Q :=
  GoesG.value _ hg (BigFrame.run_assign x hop _) hR hΦ
theorem GoesG.call {P : Program} {l : List Oper} {R : World → World → Prop} {Φ : Nat → (Nat → Value) → World → Prop} {i : Nat} {o : Oper} {a' : Act} {W : World} {Q : Exit → Act → World → Prop} (f : FuncId) (args : Array Value) (hg : o.guard = none) (hrun : (execOp a'.eval o).run P W = .ok (.enter f args) W)
    (hc : Calls P f args W fun e W' => ∃ v, e = .returned v ∧ R W W' ∧ ∀ s : Nat → Value, (o.dst.isSome = true → s i = v) → (∀ k, k ≠ i → ancB l l.length i k = true → s k = sv l a' k) → Φ i s W') : GoesG P l R Φ i o a' W Q := by
  unfold GoesG
  rw [if_pos (by simp [Region.wanted, hg])]
  unfold Oper.wp
  rw [hrun]
  exact hc.mono fun e W' ⟨v, he, hR, hΦ⟩ => by subst he; exact ⟨v, rfl, hR, hΦ⟩

/-- blocks from B on of cells of type T may turn, to such cells as F holds of; the others stay; memory grows -/
structure Grow (B : Nat) (T : TypeId) (F : Array Value → Prop) (W W' : World) : Prop where
  os : W'.os = W.os
  tape : W'.tape = W.tape
  output : W'.output = W.output
  size : W.heap.size ≤ W'.heap.size
  block : ∀ j, j < W.heap.size → W'.heap[j]? = W.heap[j]? ∨ (B ≤ j ∧ ∃ c c' f, W.heap[j]? = some (.cells c T f) ∧ W'.heap[j]? = some (.cells c' T f) ∧ c'.size = c.size ∧ F c')
theorem Grow.refl (B : Nat) (T : TypeId) (F : Array Value → Prop) (W : World) : Grow B T F W W := ⟨rfl, rfl, rfl, Nat.le_refl _, fun _ _ => .inl rfl⟩
theorem Grow.drawn (B : Nat) (T : TypeId) (F : Array Value → Prop) (W : World) : Grow B T F W { W with drawn := W.drawn + 1 } := ⟨rfl, rfl, rfl, Nat.le_refl _, fun _ _ => .inl rfl⟩
theorem Grow.trans {B : Nat} {T : TypeId} {F : Array Value → Prop} {a b c : World} (h : Grow B T F a b) (g : Grow B T F b c) : Grow B T F a c := by
  refine ⟨g.os.trans h.os, g.tape.trans h.tape, g.output.trans h.output, Nat.le_trans h.size g.size, fun j hj => ?_⟩
  have hj' : j < b.heap.size := Nat.lt_of_lt_of_le hj h.size
  rcases h.block j hj with h1 | ⟨hB, x, y, f, h1, h2, h3, h4⟩
  · rcases g.block j hj' with g1 | ⟨hB, x', y', f', g1, g2, g3, g4⟩
    · exact .inl (g1.trans h1)
    · exact .inr ⟨hB, x', y', f', h1 ▸ g1, g2, g3, g4⟩
  · rcases g.block j hj' with g1 | ⟨hB, x', y', f', g1, g2, g3, g4⟩
    · exact .inr ⟨hB, x, y, f, h1, g1.trans h2, h3, h4⟩
    · rw [h2] at g1
      cases g1
      exact .inr ⟨hB, x, y', f, h1, g2, g3.trans h3, g4⟩
theorem Grow.of_ext {B : Nat} {T : TypeId} {F : Array Value → Prop} {W W' : World} (h : Ext W W') : Grow B T F W W' := ⟨h.os, h.tape, h.output, h.size, fun j hj => .inl (h.below.block j hj)⟩
theorem Grow.ext {T : TypeId} {F : Array Value → Prop} {w W : World} (h : Grow w.heap.size T F w W) : Ext w W :=
  ⟨h.os, h.tape, h.output, h.size, fun j hj => by
    rcases h.block j hj with h1 | ⟨hB, _⟩
    · exact h1
    · omega⟩
theorem Grow.row {B : Nat} {T : TypeId} {F : Array Value → Prop} {W : World} {g : Nat} {c c' : Array Value} {f : Nat × Nat} (h : W.heap[g]? = some (.cells c T f)) (hB : B ≤ g) (hs : c'.size = c.size) (hF : F c') : Grow B T F W (W.setRow g c') := by
  refine ⟨rfl, rfl, rfl, by simp [World.setRow], fun j hj => ?_⟩
  by_cases e : j = g
  · subst e
    exact .inr ⟨hB, c, c', f, h, setRow_heap W j c c' T f h, hs, hF⟩
  · refine .inl ?_
    simp only [World.setRow, Array.getElem?_modify, if_neg (Ne.symm e)]
/-- a block that is no cells of type T stays -/
theorem Grow.keep {B : Nat} {T : TypeId} {F : Array Value → Prop} {W W' : World} (h : Grow B T F W W') {j : Nat} {o : Obj} (ho : W.heap[j]? = some o) (hn : ∀ c f, o ≠ .cells c T f) : W'.heap[j]? = some o := by
  rcases h.block j (lt_of_block ho) with h1 | ⟨_, x, y, f, h1, _⟩
  · rw [h1]; exact ho
  · rw [ho] at h1; cases h1; exact absurd rfl (hn _ _)
/-- a block below B stays -/
theorem Grow.low {B : Nat} {T : TypeId} {F : Array Value → Prop} {W W' : World} (h : Grow B T F W W') {j : Nat} (hj : j < B) (hw : j < W.heap.size) : W'.heap[j]? = W.heap[j]? := by
  rcases h.block j hw with h1 | ⟨hB, _⟩
  · exact h1
  · omega
/-- a block of cells of type T stays one, of the same size -/
theorem Grow.turn {B : Nat} {T : TypeId} {F : Array Value → Prop} {W W' : World} (h : Grow B T F W W') {j : Nat} {c : Array Value} {f : Nat × Nat} (ho : W.heap[j]? = some (.cells c T f)) : ∃ c', W'.heap[j]? = some (.cells c' T f) ∧ c'.size = c.size := by
  rcases h.block j (lt_of_block ho) with h1 | ⟨_, x, y, f', h1, h2, h3, _⟩
  · exact ⟨c, h1.trans ho, rfl⟩
  · rw [ho] at h1; cases h1; exact ⟨y, h2, h3⟩
/-- a block of which F holds stays one -/
theorem Grow.done {B : Nat} {T : TypeId} {F : Array Value → Prop} {W W' : World} (h : Grow B T F W W') {j : Nat} {c : Array Value} {f : Nat × Nat} (ho : W.heap[j]? = some (.cells c T f)) (hF : F c) : ∃ c', W'.heap[j]? = some (.cells c' T f) ∧ F c' := by
  rcases h.block j (lt_of_block ho) with h1 | ⟨_, x, y, f', h1, h2, _, h4⟩
  · exact ⟨c, h1.trans ho, hF⟩
  · rw [ho] at h1; cases h1; exact ⟨y, h2, h4⟩

/-- a store of a whole row -/
theorem GoesG.store {P : Program} {l : List Oper} {R : World → World → Prop} {Φ : Nat → (Nat → Value) → World → Prop} {i : Nat} {o : Oper} {a' : Act} {W : World} {Q : Exit → Act → World → Prop} (hg : o.guard = none) (ty : TypeId) (x y : Operand) (ho : o.op = .store ty x y)
    (g : Nat) (cells : Array Value) (hx : a'.eval x = .pointer (some ⟨g, 0, none⟩)) (hy : a'.eval y = .agg cells) (t : TypeId) (old : Array Value) (hh : W.heap[g]? = some (.cells old t (0, 0))) (hi : (P.info? ty).map (·.size) = some cells.size)
    (hold : old.size = cells.size) (h1 : cells.all (·.oneCell') = true) (hd : o.dst = none) (hR : R W (W.setRow g cells))
    (hΦ : ∀ s : Nat → Value, (∀ k, k ≠ i → ancB l l.length i k = true → s k = sv l a' k) → Φ i s (W.setRow g cells)) : GoesG P l R Φ i o a' W Q := by
  unfold GoesG
  rw [if_pos (by simp [Region.wanted, hg])]
  exact wp_store_row ty x y ho g cells hx hy t old hh hi hold h1 ⟨undef, rfl, hR, fun s _ h2 => hΦ s h2⟩

end Go.Proofs.YtmbkjccckmlacaaDoor

namespace Go.Proofs.YtmbkjccckmlacaaDoor
open Go.RowKit
set_option linter.unusedVariables false

/-- from n on each operation waits for all before it -/
def tailB (l : List Oper) (n : Nat) : Bool := (List.range l.length).all fun j => decide (j < n) || (List.range j).all fun i => ancB l l.length j i
theorem tailB_spec {l : List Oper} {n : Nat} (h : tailB l n = true) {i j : Nat} (hj : j < l.length) (hn : n ≤ j) (hi : i < j) : ancB l l.length j i = true := by
  have h1 := List.all_eq_true.1 h j (List.mem_range.2 hj)
  simp only [Bool.or_eq_true, decide_eq_true_eq] at h1
  rcases h1 with h1 | h1
  · omega
  · exact List.all_eq_true.1 h1 i (List.mem_range.2 hi)

theorem getD_of_lt {listed : Array Bool} {i : Nat} (hi : i < listed.size) (d d' : Bool) : listed.getD i d = listed.getD i d' := by
  simp [Array.getD_eq_getD_getElem?, Array.getElem?_eq_getElem hi]

/-- the tail -/
theorem tail_any {P : Program} {Q : Exit → Act → World → Prop} {l : List Oper} {n : Nat} (hback : backB l = true) (ht : tailB l n = true) :
    ∀ (rest : List Oper) (k : Nat) (listed : Array Bool) (a : Act) (W : World), rest = l.drop k → n ≤ k → k ≤ l.length → listed.size = l.length → (∀ j, j < k → listed.getD j false = true) → (∀ j, k ≤ j → listed.getD j false = false) →
      wpList P l.toArray Q rest a W → wpAny P .any l.toArray Q (l.length - k) listed a W := by
  intro rest
  induction rest with
  | nil =>
    intro k listed a W hr hn hk hs h1 h2 hw
    have hkl : l.length = k := by
      have := congrArg List.length hr
      simp at this; omega
    have h0 : Region.ready .any l.toArray listed = [] := by
      apply List.eq_nil_iff_forall_not_mem.2
      intro i hi
      obtain ⟨g1, o, ho, _⟩ := mem_ready.1 hi
      have hi' : i < l.length := by have := (Array.getElem?_eq_some_iff.1 ho).1; simpa using this
      rw [getD_of_lt (by omega) true false, h1 i (by omega)] at g1
      cases g1
    rw [show l.length - k = 0 by omega]
    exact ⟨h0, hw⟩
  | cons o rest ih =>
    intro k listed a W hr hn hk hs h1 h2 hw
    have hkl : k < l.length := by
      have := congrArg List.length hr
      simp at this; omega
    have hlk : l[k]? = some o := by
      have := congrArg (·[0]?) hr
      simp at this
      simpa using this.symm
    have hrest : rest = l.drop (k + 1) := by
      have := congrArg List.tail hr
      simpa using this
    have hkr : k ∈ Region.ready .any l.toArray listed := by
      rw [mem_ready]
      refine ⟨by rw [getD_of_lt (by omega) true false]; exact h2 k (Nat.le_refl _), o, by simpa using hlk, fun e he hb => ?_⟩
      exact h1 e.on (backB_spec hback hlk he hb)
    rw [show l.length - k = (l.length - (k + 1)) + 1 by omega]
    refine ⟨fun h0 => absurd hkr (by rw [h0]; simp), fun i hi => ?_⟩
    obtain ⟨g1, oi, hoi, hwait⟩ := mem_ready.1 hi
    have hoi' : l[i]? = some oi := by simpa using hoi
    have hil : i < l.length := (List.getElem?_eq_some_iff.1 hoi').1
    have hik : i = k := by
      rw [getD_of_lt (by omega) true false] at g1
      rcases Nat.lt_trichotomy i k with h | h | h
      · rw [h1 i h] at g1; cases g1
      · exact h
      · exfalso
        have ha := tailB_spec ht hil (by omega) h
        revert ha
        cases hL : l.length with
        | zero => omega
        | succ m =>
          intro ha
          unfold ancB at ha
          rw [hoi'] at ha
          obtain ⟨e, he, hh⟩ := List.any_eq_true.1 ha
          simp only [Bool.and_eq_true, Bool.or_eq_true, decide_eq_true_eq] at hh
          have h3 := hwait e (by simpa using he) hh.1
          have h4 : e.on < k := by
            rcases Nat.lt_or_ge e.on k with h5 | h5
            · exact h5
            · rw [h2 e.on h5] at h3; cases h3
          rcases hh.2 with h5 | h5
          · omega
          · have := anc_back hback _ _ _ h5; omega
    subst hik
    have hK : ∀ a' W', wpList P l.toArray Q rest a' W' → wpAny P .any l.toArray Q (l.length - (i + 1)) (listed.setIfInBounds i true) a' W' := by
      intro a' W' hw'
      refine ih (i + 1) _ a' W' hrest (by omega) hkl (by simpa using hs) (fun j hj => ?_) (fun j hj => ?_) hw'
      · by_cases e : j = i
        · subst e; simp [Array.getD_eq_getD_getElem?, hs, hkl]
        · rw [getD_set_ne false (Ne.symm e)]; exact h1 j (by omega)
      · rw [getD_set_ne false (by omega)]; exact h2 j (by omega)
    unfold wpOp
    rw [show l.toArray[i]? = some o by simpa using hlk]
    unfold wpList at hw
    dsimp only
    split
    · rename_i hwant
      rw [if_pos hwant] at hw
      exact hw.imp (Oper.wp_mono hK) id
    · rename_i hwant
      rw [if_neg hwant] at hw
      exact hK _ _ hw

theorem wp_region_tail {P : Program} {id : Nat} {Q : Exit → Act → World → Prop} {a : Act} {w : World} {l1 l2 : List Oper} (hm : P.follows .mixedOrders = true)
    (R : World → World → Prop) (hRr : ∀ W, R W W) (hR0 : ∀ W : World, R W { W with drawn := W.drawn + 1 }) (hRt : ∀ {A B C}, R A B → R B C → R A C)
    (Φ : Nat → (Nat → Value) → World → Prop) (D : Nat → List Nat) (hst : ∀ j s s' W W', Φ j s W → (∀ k ∈ D j, s' k = s k) → R W W' → Φ j s' W')
    (hback : backB (l1 ++ l2) = true) (hun : uniqB (l1 ++ l2) = true) (hreads : readsB (l1 ++ l2) D = true) (N : Nat) (hN : a.tmps.size = N) (hinB : (((l1 ++ l2).filterMap (·.dst)).all fun d => decide (d < N)) = true)
    (htail : tailB (l1 ++ l2) l1.length = true)
    (hstep : ∀ (i : Nat) o, l1[i]? = some o → ∀ a' W, AtG (l1 ++ l2) R Φ a w i o a' W → GoesG P (l1 ++ l2) R Φ i o a' W Q)
    (hend : ∀ (vs : List Value) W, vs.length = l1.length → R w W → (∀ j, j < l1.length → Φ j (fun k => vs.getD k undef) W) → wpList P (l1 ++ l2).toArray Q l2 (putAll l1 vs a) W) :
    (Code.region id (l1 ++ l2).toArray true).wp P Q a w := by
  have hin : ∀ d ∈ (l1 ++ l2).filterMap (·.dst), d < a.tmps.size := fun d hd => by rw [hN]; exact of_decide_eq_true (List.all_eq_true.1 hinB d hd)
  generalize hl : l1 ++ l2 = l at *
  have hl1 : ∀ j, j < l1.length → l1[j]? = l[j]? := fun j hj => by rw [← hl, List.getElem?_append_left hj]
  have hlen : l1.length ≤ l.length := by rw [← hl]; simp
  have hdrop : l2 = l.drop l1.length := by rw [← hl]; simp
  refine wp_region_any hm ?_
  have fin : ∀ (listed : Array Bool) (a' : Act) (W : World), listed.toList.count false = l.length - l1.length → (∀ j, l1.length ≤ j → listed.getD j false = false) → (∀ j, j < l1.length → listed.getD j false = true) → InvG l R Φ a w listed a' W →
      wpAny P .any l.toArray Q (l.length - l1.length) listed a' W := by
    intro listed a' W hc hlo hall hI
    refine tail_any hback htail l2 l1.length listed a' W hdrop (Nat.le_refl _) hlen hI.lsize hall hlo ?_
    have e : a' = putAll l1 (l1.map fun o => match o.dst with | none => undef | some d => a'.tmps.getD d undef) a := by
      refine act_eq (by rw [putAll_size]; exact hI.size) (by rw [putAll_defers]; exact hI.defers) ?_
      intro d hlt
      by_cases hm : d ∈ l1.filterMap (·.dst)
      · obtain ⟨o, ho, hod⟩ := List.mem_filterMap.1 hm
        obtain ⟨j, hj⟩ := List.getElem?_of_mem ho
        have hjl : j < l1.length := (List.getElem?_eq_some_iff.1 hj).1
        rw [putAll_self l1 _ a j o d (by simp) hj hod (fun i p hp e => uniqB_spec hun (by rw [← hl1 i (List.getElem?_eq_some_iff.1 hp).1]; exact hp) (by rw [← hl1 j hjl]; exact hj) e hod) (by rw [← hI.size]; exact hlt)]
        rw [List.getD_eq_getElem?_getD, List.getElem?_map, hj]
        simp [hod]
      · rw [putAll_other l1 _ a d (fun o ho e => hm (List.mem_filterMap.2 ⟨o, ho, e⟩))]
        refine hI.old d (fun j oj hj hd => ?_)
        rcases Nat.lt_or_ge j l1.length with h | h
        · exact absurd (List.mem_filterMap.2 ⟨oj, List.mem_of_getElem? (by rw [hl1 j h]; exact hj), hd⟩) hm
        · exact hlo j h
    rw [e]
    refine hend _ W (by simp) hI.rel (fun j hj => ?_)
    refine hst j _ _ W W (hI.new j (by omega) (hall j hj)) (fun k hk => ?_) (hRr W)
    have hkj : k ≤ j := by
      have h1 := List.all_eq_true.1 (List.all_eq_true.1 hreads j (List.mem_range.2 (by omega))) k hk
      simp only [Bool.or_eq_true, decide_eq_true_eq] at h1
      rcases h1 with h1 | h1
      · omega
      · exact Nat.le_of_lt (anc_back hback _ _ _ h1)
    have hkl : k < l1.length := by omega
    unfold sv
    rw [List.getD_eq_getElem?_getD, List.getElem?_map, hl1 k hkl]
    cases hk : l[k]? with
    | none => rfl
    | some o => cases hod : o.dst <;> simp [hod]
  have main : ∀ (fuel : Nat) (listed : Array Bool) (a' : Act) (W : World), listed.toList.count false = fuel → (∀ j, l1.length ≤ j → listed.getD j false = false) → InvG l R Φ a w listed a' W → wpAny P .any l.toArray Q fuel listed a' W := by
    intro fuel
    have cnt : ∀ (listed : Array Bool), listed.size = l.length → (∀ j, l1.length ≤ j → listed.getD j false = false) → (∀ j, j < l1.length → listed.getD j false = true) → listed.toList.count false = l.length - l1.length := by
      intro listed hs hlo hall
      have e : listed.toList = List.replicate l1.length true ++ List.replicate (l.length - l1.length) false := by
        apply List.ext_getElem?
        intro i
        by_cases hi : i < listed.size
        · have hg : ∀ b, listed.getD i false = b → listed.toList[i]? = some b := fun b hb => by
            rw [getD_of_lt hi false true] at hb
            simp only [Array.getD_eq_getD_getElem?, Array.getElem?_eq_getElem hi, Option.getD_some] at hb
            simp [hi, hb]
          by_cases h : i < l1.length
          · rw [hg true (hall i h), List.getElem?_append_left (by simpa using h)]
            simp [h]
          · rw [hg false (hlo i (by omega)), List.getElem?_append_right (by simp; omega), List.getElem?_replicate, if_pos (by rw [List.length_replicate]; omega)]
        · rw [List.getElem?_eq_none (by simpa using hi), List.getElem?_eq_none (by simp; omega)]
      rw [e, List.count_append, List.count_replicate, List.count_replicate]
      simp
    induction fuel with
    | zero =>
      intro listed a' W hc hlo hI
      have hall' : ∀ i, i < l.length → listed.getD i false = true := by
        intro i hi
        have hi' : i < listed.size := by rw [hI.lsize]; exact hi
        cases hb : listed.getD i false with
        | true => rfl
        | false =>
          exfalso
          have : false ∈ listed.toList := by
            simp only [Array.getD_eq_getD_getElem?, Array.getElem?_eq_getElem hi', Option.getD_some] at hb
            rw [← hb]; simp
          have := List.count_pos_iff.2 this
          omega
      have hall : ∀ i, i < l1.length → listed.getD i false = true := fun i hi => hall' i (by omega)
      have hc2 := cnt listed hI.lsize hlo hall
      have := fin listed a' W hc2 hlo hall hI
      rw [show l.length - l1.length = 0 by omega] at this
      exact this
    | succ fuel ih =>
      intro listed a' W hc hlo hI
      by_cases hall : ∀ j, j < l1.length → listed.getD j false = true
      · have hc2 := cnt listed hI.lsize hlo hall
        have := fin listed a' W hc2 hlo hall hI
        rw [show l.length - l1.length = fuel + 1 by omega] at this
        exact this
      · obtain ⟨j0, hj0⟩ := Classical.not_forall.1 hall
        obtain ⟨hj0l, hj0f⟩ := Classical.not_imp.1 hj0
        refine ⟨fun h0 => ?_, fun i hi => ?_⟩
        · exact absurd (all_listed hback hI.lsize h0 j0 (by omega)) hj0f
        · obtain ⟨hl0, o, ho, hwait⟩ := mem_ready.1 hi
          have ho' : l[i]? = some o := by simpa using ho
          have hil : i < l.length := (List.getElem?_eq_some_iff.1 ho').1
          have hil' : i < listed.size := by rw [hI.lsize]; exact hil
          have hlf : listed.getD i false = false := by
            rw [getD_of_lt hil' false true]; exact hl0
          have hanc : ∀ n k, ancB l n i k = true → listed.getD k false = true := by
            intro n k hk
            cases n with
            | zero => simp [ancB] at hk
            | succ n =>
              unfold ancB at hk
              rw [ho'] at hk
              obtain ⟨e, he, hh⟩ := List.any_eq_true.1 hk
              simp only [Bool.and_eq_true, Bool.or_eq_true, decide_eq_true_eq] at hh
              have h1 := hwait e (by simpa using he) hh.1
              rcases hh.2 with h2 | h2
              · rw [← h2]; exact h1
              · exact hI.down.anc n e.on k h1 h2
          have hi1 : i < l1.length := by
            rcases Nat.lt_or_ge i l1.length with h | h
            · exact h
            · exact absurd (hanc _ _ (tailB_spec htail hil h (by omega : j0 < i))) hj0f
          have hAt : AtG l R Φ a w i o a' W := ⟨hI.rel, hI.size, hI.defers,
            fun d hd => hI.old d (fun j oj hj hdj => by
              have hji := hd j oj hj hdj
              cases hlj : listed.getD j false with
              | false => rfl
              | true =>
                have := hI.down.anc _ j i hlj hji
                rw [hlf] at this; cases this),
            fun j hj ha => hI.new j hj (hanc _ j ha)⟩
          have hG := hstep i o (by rw [hl1 i hi1]; exact ho') a' W hAt
          have hnext : ∀ v W2, R W W2 → (∀ s : Nat → Value, (o.dst.isSome = true → s i = v) → (∀ k, k ≠ i → ancB l l.length i k = true → s k = sv l a' k) → Φ i s W2) → wpAny P .any l.toArray Q fuel (listed.setIfInBounds i true) (a'.put o.dst v) W2 := by
            intro v W2 hR hv
            have hin' : ∀ d ∈ l.filterMap (·.dst), d < a'.tmps.size := fun d hd => by rw [hI.size]; exact hin d hd
            have hset : ∀ j, j ≠ i → (listed.setIfInBounds i true).getD j false = listed.getD j false := fun j hj => getD_set_ne false (Ne.symm hj)
            refine ih _ _ _ ?_ (fun j hj => by rw [hset j (by omega)]; exact hlo j hj) ?_
            · have := count_set listed.toList i (by simp [hil']; simpa [Array.getD_eq_getD_getElem?, hil'] using hlf)
              rw [Array.toList_setIfInBounds]; omega
            · refine ⟨hRt hI.rel hR, by simpa using hI.lsize, by rw [put_size]; exact hI.size, by rw [put_defers]; exact hI.defers, ?_, ?_, ?_⟩
              · intro d hd
                have hne : o.dst ≠ some d := fun e => by
                  have := hd i o ho' e
                  simp [Array.getD_eq_getD_getElem?, hil'] at this
                rw [put_other hne]
                refine hI.old d (fun j oj hj hdj => ?_)
                by_cases hji : j = i
                · subst hji; exact hlf
                · have := hd j oj hj hdj
                  rwa [hset j hji] at this
              · intro j hj hlj
                by_cases hji : j = i
                · subst hji
                  exact hv _ (fun hd => sv_put_self ho' hin' hd) (fun k hk _ => sv_put_other hun ho' hk)
                · rw [hset j hji] at hlj
                  refine hst j _ _ _ _ (hI.new j hj hlj) (fun k hk => sv_put_other hun ho' ?_) hR
                  rintro rfl
                  have h1 := List.all_eq_true.1 (List.all_eq_true.1 hreads j (List.mem_range.2 hj)) k hk
                  simp only [Bool.or_eq_true, decide_eq_true_eq] at h1
                  rcases h1 with h1 | h1
                  · exact hji h1.symm
                  · have := hI.down.anc _ j k hlj h1
                    rw [hlf] at this; cases this
              · intro j oj hj hlj e he hb
                by_cases hji : j = i
                · subst hji
                  rw [ho'] at hj; cases hj
                  exact getD_set_true (hwait e he hb)
                · rw [hset j hji] at hlj
                  exact getD_set_true (hI.down j oj hj hlj e he hb)
          unfold wpOp
          rw [show l.toArray[i]? = some o by simpa using ho']
          unfold GoesG at hG
          by_cases hwant : Region.wanted o (yielded l.toArray a'.tmps) = true
          · rw [if_pos hwant] at hG
            simp only [hwant, if_true]
            exact .inl (Oper.wp_mono (fun a2 W2 ⟨v, e, hR, hv⟩ => by rw [e]; exact hnext v W2 hR hv) hG)
          · rw [if_neg hwant] at hG
            simp only [hwant]
            exact hnext undef W hG.1 hG.2
  have h0 := main l.length (Array.replicate l.length false) a { w with drawn := w.drawn + 1 } (by simp) (fun j _ => getD_false _ _)
    ⟨hR0 w, by simp, rfl, rfl, fun _ _ => rfl, (fun j _ h => by rw [getD_false] at h; cases h), (fun j oj _ h => by rw [getD_false] at h; cases h)⟩
  simpa using h0

end Go.Proofs.YtmbkjccckmlacaaDoor

namespace Go.Proofs.YtmbkjccckmlacaaDoor
open Go.RowKit
set_option linter.unusedVariables false

structure InvP (al : Nat → Bool) (l : List Oper) (R : World → World → Prop) (Φ : Nat → (Nat → Value) → World → Prop) (a : Act) (w : World) (listed : Array Bool) (a' : Act) (W : World) : Prop where
  g : InvG l R Φ a w listed a' W
  pair : ∀ i j, i < l.length → j < l.length → i ≠ j → al i = true → al j = true → listed.getD i false = true → listed.getD j false = true → sv l a' i ≠ sv l a' j
/-- one operation; what the allocating ones yield is new -/
def GoesP (al : Nat → Bool) (P : Program) (l : List Oper) (R : World → World → Prop) (Φ : Nat → (Nat → Value) → World → Prop) (i : Nat) (o : Oper) (a' : Act) (W : World) (Q : Exit → Act → World → Prop) : Prop :=
  if Region.wanted o (yielded l.toArray a'.tmps) then
    o.wp P a' W (fun a2 W2 => ∃ v, a2 = a'.put o.dst v ∧ R W W2 ∧ (∀ s : Nat → Value, (o.dst.isSome = true → s i = v) → (∀ k, k ≠ i → ancB l l.length i k = true → s k = sv l a' k) → Φ i s W2) ∧ (al i = true → o.dst.isSome = true ∧ ∀ j s, al j = true → Φ j s W → v ≠ s j)) Q
  else R W W ∧ (∀ s : Nat → Value, (o.dst.isSome = true → s i = undef) → (∀ k, k ≠ i → ancB l l.length i k = true → s k = sv l a' k) → Φ i s W) ∧ al i = false
theorem GoesG.toP {al : Nat → Bool} {P : Program} {l : List Oper} {R : World → World → Prop} {Φ : Nat → (Nat → Value) → World → Prop} {i : Nat} {o : Oper} {a' : Act} {W : World} {Q : Exit → Act → World → Prop} (hal : al i = false) (h : GoesG P l R Φ i o a' W Q) : GoesP al P l R Φ i o a' W Q := by
  unfold GoesG at h
  unfold GoesP
  split
  · rename_i hw
    rw [if_pos hw] at h
    exact Oper.wp_mono (fun a2 W2 ⟨v, e, hR, hv⟩ => ⟨v, e, hR, hv, fun e => by rw [hal] at e; cases e⟩) h
  · rename_i hw
    rw [if_neg hw] at h
    exact ⟨h.1, h.2, hal⟩
theorem wp_region_genp {P : Program} {id : Nat} {Q : Exit → Act → World → Prop} {a : Act} {w : World} {l : List Oper} (hm : P.follows .mixedOrders = true) (al : Nat → Bool)
    (R : World → World → Prop) (hR0 : ∀ W : World, R W { W with drawn := W.drawn + 1 }) (hRt : ∀ {A B C}, R A B → R B C → R A C)
    (Φ : Nat → (Nat → Value) → World → Prop) (D : Nat → List Nat) (hst : ∀ j s s' W W', Φ j s W → (∀ k ∈ D j, s' k = s k) → R W W' → Φ j s' W')
    (hback : backB l = true) (hun : uniqB l = true) (hreads : readsB l D = true) (hin : ∀ d ∈ l.filterMap (·.dst), d < a.tmps.size)
    (hstep : ∀ (i : Nat) o, l[i]? = some o → ∀ a' W, AtG l R Φ a w i o a' W → GoesP al P l R Φ i o a' W Q)
    (hend : ∀ a' W, R w W → a'.tmps.size = a.tmps.size → a'.defers = a.defers → (∀ d, d ∉ l.filterMap (·.dst) → a'.tmps.getD d undef = a.tmps.getD d undef) →
      (∀ j, j < l.length → Φ j (sv l a') W) → (∀ i j, i < l.length → j < l.length → i ≠ j → al i = true → al j = true → sv l a' i ≠ sv l a' j) → Q .normal a' W) :
    (Code.region id l.toArray true).wp P Q a w := by
  refine wp_region_any hm ?_
  have main : ∀ (fuel : Nat) (listed : Array Bool) (a' : Act) (W : World), listed.toList.count false = fuel → InvP al l R Φ a w listed a' W → wpAny P .any l.toArray Q fuel listed a' W := by
    intro fuel
    induction fuel with
    | zero =>
      intro listed a' W hc hIP
      have hI := hIP.g
      have hall : ∀ i, i < l.length → listed.getD i false = true := by
        intro i hi
        have hi' : i < listed.size := by rw [hI.lsize]; exact hi
        cases hb : listed.getD i false with
        | true => rfl
        | false =>
          exfalso
          have : false ∈ listed.toList := by
            simp only [Array.getD_eq_getD_getElem?, Array.getElem?_eq_getElem hi', Option.getD_some] at hb
            rw [← hb]; simp
          have := List.count_pos_iff.2 this
          omega
      have hr : Region.ready .any l.toArray listed = [] := by
        apply List.eq_nil_iff_forall_not_mem.2
        intro i hi
        rw [mem_ready] at hi
        obtain ⟨h1, o, ho, _⟩ := hi
        have hi' : i < l.length := by
          have := (Array.getElem?_eq_some_iff.1 ho).1
          simpa using this
        have h2 := hall i hi'
        have hi2 : i < listed.size := by rw [hI.lsize]; exact hi'
        simp only [Array.getD_eq_getD_getElem?, Array.getElem?_eq_getElem hi2, Option.getD_some] at h1 h2
        rw [h1] at h2; cases h2
      exact ⟨hr, hend a' W hI.rel hI.size hI.defers (fun d hd => hI.old d (fun j oj hj hd' => absurd (List.mem_filterMap.2 ⟨oj, List.mem_of_getElem? hj, hd'⟩) hd)) (fun j hj => hI.new j hj (hall j hj)) (fun i j hi hj hne h1 h2 => hIP.pair i j hi hj hne h1 h2 (hall i hi) (hall j hj))⟩
    | succ fuel ih =>
      intro listed a' W hc hIP
      have hI := hIP.g
      refine ⟨fun h0 => ?_, fun i hi => ?_⟩
      · have hall := all_listed hback hI.lsize h0
        exact hend a' W hI.rel hI.size hI.defers (fun d hd => hI.old d (fun j oj hj hd' => absurd (List.mem_filterMap.2 ⟨oj, List.mem_of_getElem? hj, hd'⟩) hd)) (fun j hj => hI.new j hj (hall j hj)) (fun i j hi hj hne h1 h2 => hIP.pair i j hi hj hne h1 h2 (hall i hi) (hall j hj))
      · obtain ⟨hl0, o, ho, hwait⟩ := mem_ready.1 hi
        have ho' : l[i]? = some o := by simpa using ho
        have hil : i < l.length := (List.getElem?_eq_some_iff.1 ho').1
        have hil' : i < listed.size := by rw [hI.lsize]; exact hil
        have hlf : listed.getD i false = false := by
          simp only [Array.getD_eq_getD_getElem?, Array.getElem?_eq_getElem hil', Option.getD_some] at hl0 ⊢
          exact hl0
        have hanc : ∀ n k, ancB l n i k = true → listed.getD k false = true := by
          intro n k hk
          cases n with
          | zero => simp [ancB] at hk
          | succ n =>
            unfold ancB at hk
            rw [ho'] at hk
            obtain ⟨e, he, hh⟩ := List.any_eq_true.1 hk
            simp only [Bool.and_eq_true, Bool.or_eq_true, decide_eq_true_eq] at hh
            have h1 := hwait e (by simpa using he) hh.1
            rcases hh.2 with h2 | h2
            · rw [← h2]; exact h1
            · exact hI.down.anc n e.on k h1 h2
        have hAt : AtG l R Φ a w i o a' W := ⟨hI.rel, hI.size, hI.defers,
          fun d hd => hI.old d (fun j oj hj hdj => by
            have hji := hd j oj hj hdj
            cases hlj : listed.getD j false with
            | false => rfl
            | true =>
              have := hI.down.anc _ j i hlj hji
              rw [hlf] at this; cases this),
          fun j hj ha => hI.new j hj (hanc _ j ha)⟩
        have hG := hstep i o ho' a' W hAt
        have hnext : ∀ v W2, R W W2 → (∀ s : Nat → Value, (o.dst.isSome = true → s i = v) → (∀ k, k ≠ i → ancB l l.length i k = true → s k = sv l a' k) → Φ i s W2) → (al i = true → o.dst.isSome = true ∧ ∀ j s, al j = true → Φ j s W → v ≠ s j) → wpAny P .any l.toArray Q fuel (listed.setIfInBounds i true) (a'.put o.dst v) W2 := by
          intro v W2 hR hv hfr
          have hin' : ∀ d ∈ l.filterMap (·.dst), d < a'.tmps.size := fun d hd => by rw [hI.size]; exact hin d hd
          refine ih _ _ _ ?_ ?_
          · have := count_set listed.toList i (by simp [hil']; simpa [Array.getD_eq_getD_getElem?, hil'] using hlf)
            rw [Array.toList_setIfInBounds]; omega
          · have hset : ∀ j, j ≠ i → (listed.setIfInBounds i true).getD j false = listed.getD j false := fun j hj => getD_set_ne false (Ne.symm hj)
            refine ⟨⟨hRt hI.rel hR, by simpa using hI.lsize, by rw [put_size]; exact hI.size, by rw [put_defers]; exact hI.defers, ?_, ?_, ?_⟩, ?_⟩
            · intro d hd
              have hne : o.dst ≠ some d := fun e => by
                have := hd i o ho' e
                simp [Array.getD_eq_getD_getElem?, hil'] at this
              rw [put_other hne]
              refine hI.old d (fun j oj hj hdj => ?_)
              by_cases hji : j = i
              · subst hji; exact hlf
              · have := hd j oj hj hdj
                rwa [hset j hji] at this
            · intro j hj hlj
              by_cases hji : j = i
              · subst hji
                exact hv _ (fun hd => sv_put_self ho' hin' hd) (fun k hk _ => sv_put_other hun ho' hk)
              · rw [hset j hji] at hlj
                refine hst j _ _ _ _ (hI.new j hj hlj) (fun k hk => sv_put_other hun ho' ?_) hR
                rintro rfl
                have h1 := List.all_eq_true.1 (List.all_eq_true.1 hreads j (List.mem_range.2 hj)) k hk
                simp only [Bool.or_eq_true, decide_eq_true_eq] at h1
                rcases h1 with h1 | h1
                · exact hji h1.symm
                · have := hI.down.anc _ j k hlj h1
                  rw [hlf] at this; cases this
            · intro j oj hj hlj e he hb
              by_cases hji : j = i
              · subst hji
                rw [ho'] at hj; cases hj
                exact getD_set_true (hwait e he hb)
              · rw [hset j hji] at hlj
                exact getD_set_true (hI.down j oj hj hlj e he hb)
            · have key : ∀ j, j < l.length → j ≠ i → al i = true → al j = true → (listed.setIfInBounds i true).getD j false = true → sv l (a'.put o.dst v) i ≠ sv l (a'.put o.dst v) j := by
                intro j hj hji h1 h2 hlj
                rw [hset j hji] at hlj
                obtain ⟨hd, hf⟩ := hfr h1
                rw [sv_put_self ho' hin' hd, sv_put_other hun ho' hji]
                exact hf j (sv l a') h2 (hI.new j hj hlj)
              intro i1 j1 hi1 hj1 hne h1 h2 hl1 hl2
              by_cases e1 : i1 = i
              · subst e1
                exact key j1 hj1 (Ne.symm hne) h1 h2 hl2
              · by_cases e2 : j1 = i
                · subst e2
                  exact (key i1 hi1 e1 h2 h1 hl1).symm
                · rw [sv_put_other hun ho' e1, sv_put_other hun ho' e2]
                  rw [hset i1 e1] at hl1
                  rw [hset j1 e2] at hl2
                  exact hIP.pair i1 j1 hi1 hj1 hne h1 h2 hl1 hl2
        unfold wpOp
        rw [show l.toArray[i]? = some o by simpa using ho']
        unfold GoesP at hG
        by_cases hwant : Region.wanted o (yielded l.toArray a'.tmps) = true
        · rw [if_pos hwant] at hG
          simp only [hwant, if_true]
          exact .inl (Oper.wp_mono (fun a2 W2 ⟨v, e, hR, hv, hf⟩ => by rw [e]; exact hnext v W2 hR hv hf) hG)
        · rw [if_neg hwant] at hG
          simp only [hwant]
          exact hnext undef W hG.1 hG.2.1 (fun e => by rw [hG.2.2] at e; cases e)
  have h0 := main l.length (Array.replicate l.length false) a { w with drawn := w.drawn + 1 } (by simp)
    ⟨⟨hR0 w, by simp, rfl, rfl, fun _ _ => rfl, (fun j _ h => by rw [getD_false] at h; cases h), (fun j oj _ h => by rw [getD_false] at h; cases h)⟩, (fun i j _ _ _ _ _ h => by rw [getD_false] at h; cases h)⟩
  simpa using h0

/-- the theorem, its end with the values named -/
theorem wp_region_gp {P : Program} {id : Nat} {Q : Exit → Act → World → Prop} {a : Act} {w : World} {l : List Oper} (hm : P.follows .mixedOrders = true) (al : Nat → Bool)
    (R : World → World → Prop) (hR0 : ∀ W : World, R W { W with drawn := W.drawn + 1 }) (hRt : ∀ {A B C}, R A B → R B C → R A C)
    (Φ : Nat → (Nat → Value) → World → Prop) (D : Nat → List Nat) (hst : ∀ j s s' W W', Φ j s W → (∀ k ∈ D j, s' k = s k) → R W W' → Φ j s' W')
    (hback : backB l = true) (hun : uniqB l = true) (hreads : readsB l D = true) (N : Nat) (hN : a.tmps.size = N) (hinB : ((l.filterMap (·.dst)).all fun d => decide (d < N)) = true)
    (hstep : ∀ (i : Nat) o, l[i]? = some o → ∀ a' W, AtG l R Φ a w i o a' W → GoesP al P l R Φ i o a' W Q)
    (hend : ∀ (vs : List Value) W, vs.length = l.length → R w W → (∀ j, j < l.length → Φ j (fun k => vs.getD k undef) W) → (∀ i j, i < l.length → j < l.length → i ≠ j → al i = true → al j = true → vs.getD i undef ≠ vs.getD j undef) → Q .normal (putAll l vs a) W) :
    (Code.region id l.toArray true).wp P Q a w := by
  have hin : ∀ d ∈ l.filterMap (·.dst), d < a.tmps.size := fun d hd => by rw [hN]; exact of_decide_eq_true (List.all_eq_true.1 hinB d hd)
  refine wp_region_genp hm al R hR0 hRt Φ D hst hback hun hreads hin hstep ?_
  intro a' W hE hs hd hold hnew hpair
  have e : a' = putAll l (l.map fun o => match o.dst with | none => undef | some d => a'.tmps.getD d undef) a := by
    refine act_eq (by rw [putAll_size]; exact hs) (by rw [putAll_defers]; exact hd) ?_
    intro d hlt
    by_cases hm : d ∈ l.filterMap (·.dst)
    · obtain ⟨o, ho, hod⟩ := List.mem_filterMap.1 hm
      obtain ⟨j, hj⟩ := List.getElem?_of_mem ho
      rw [putAll_self l _ a j o d (by simp) hj hod (fun i p hp e => uniqB_spec hun hp hj e hod) (by rw [← hs]; exact hlt)]
      rw [List.getD_eq_getElem?_getD, List.getElem?_map, hj]
      simp [hod]
    · rw [putAll_other l _ a d (fun o ho e => hm (List.mem_filterMap.2 ⟨o, ho, e⟩))]
      exact hold d hm
  have hsv : (fun k => (l.map fun o => match o.dst with | none => undef | some d => a'.tmps.getD d undef).getD k undef) = sv l a' := by
    funext k
    unfold sv
    rw [List.getD_eq_getElem?_getD, List.getElem?_map]
    cases hk : l[k]? with
    | none => rfl
    | some o => cases hod : o.dst <;> simp [hod]
  rw [e]
  refine hend _ W (by simp) hE (fun j hj => ?_) (fun i j hi hj hne h1 h2 => ?_)
  · rw [hsv]
    exact hnew j hj
  · have e1 := congrFun hsv i
    have e2 := congrFun hsv j
    rw [e1, e2]
    exact hpair i j hi hj hne h1 h2

/-- an allocation -/
theorem GoesP.alloc {al : Nat → Bool} {P : Program} {l : List Oper} {R : World → World → Prop} {Φ : Nat → (Nat → Value) → World → Prop} {i : Nat} {o : Oper} {a' : Act} {W W' : World} {Q : Exit → Act → World → Prop} (v : Value) (hg : o.guard = none) (hd : o.dst.isSome = true) (hrun : (execOp a'.eval o).run P W = .ok (.value v) W') (hR : R W W')
    (hΦ : ∀ s : Nat → Value, (o.dst.isSome = true → s i = v) → (∀ k, k ≠ i → ancB l l.length i k = true → s k = sv l a' k) → Φ i s W') (hf : ∀ j s, al j = true → Φ j s W → v ≠ s j) : GoesP al P l R Φ i o a' W Q := by
  unfold GoesP
  rw [if_pos (by simp [Region.wanted, hg])]
  unfold Oper.wp
  rw [hrun]
  exact ⟨v, rfl, hR, hΦ, fun _ => ⟨hd, hf⟩⟩
end Go.Proofs.YtmbkjccckmlacaaDoor

namespace Go.Proofs.YtmbkjccckmlacaaDoor
open Go.RowKit
set_option linter.unusedVariables false

theorem wp_region_gptail {P : Program} {id : Nat} {Q : Exit → Act → World → Prop} {a : Act} {w : World} {l1 l2 : List Oper} (hm : P.follows .mixedOrders = true) (al : Nat → Bool)
    (R : World → World → Prop) (hRr : ∀ W, R W W) (hR0 : ∀ W : World, R W { W with drawn := W.drawn + 1 }) (hRt : ∀ {A B C}, R A B → R B C → R A C)
    (Φ : Nat → (Nat → Value) → World → Prop) (D : Nat → List Nat) (hst : ∀ j s s' W W', Φ j s W → (∀ k ∈ D j, s' k = s k) → R W W' → Φ j s' W')
    (hback : backB (l1 ++ l2) = true) (hun : uniqB (l1 ++ l2) = true) (hreads : readsB (l1 ++ l2) D = true) (N : Nat) (hN : a.tmps.size = N) (hinB : (((l1 ++ l2).filterMap (·.dst)).all fun d => decide (d < N)) = true)
    (htail : tailB (l1 ++ l2) l1.length = true)
    (hstep : ∀ (i : Nat) o, l1[i]? = some o → ∀ a' W, AtG (l1 ++ l2) R Φ a w i o a' W → GoesP al P (l1 ++ l2) R Φ i o a' W Q)
    (hend : ∀ (vs : List Value) W, vs.length = l1.length → R w W → (∀ j, j < l1.length → Φ j (fun k => vs.getD k undef) W) → (∀ i j, i < l1.length → j < l1.length → i ≠ j → al i = true → al j = true → vs.getD i undef ≠ vs.getD j undef) → wpList P (l1 ++ l2).toArray Q l2 (putAll l1 vs a) W) :
    (Code.region id (l1 ++ l2).toArray true).wp P Q a w := by
  have hin : ∀ d ∈ (l1 ++ l2).filterMap (·.dst), d < a.tmps.size := fun d hd => by rw [hN]; exact of_decide_eq_true (List.all_eq_true.1 hinB d hd)
  generalize hl : l1 ++ l2 = l at *
  have hl1 : ∀ j, j < l1.length → l1[j]? = l[j]? := fun j hj => by rw [← hl, List.getElem?_append_left hj]
  have hlen : l1.length ≤ l.length := by rw [← hl]; simp
  have hdrop : l2 = l.drop l1.length := by rw [← hl]; simp
  refine wp_region_any hm ?_
  have fin : ∀ (listed : Array Bool) (a' : Act) (W : World), listed.toList.count false = l.length - l1.length → (∀ j, l1.length ≤ j → listed.getD j false = false) → (∀ j, j < l1.length → listed.getD j false = true) → InvP al l R Φ a w listed a' W →
      wpAny P .any l.toArray Q (l.length - l1.length) listed a' W := by
    intro listed a' W hc hlo hall hIP
    have hI := hIP.g
    refine tail_any hback htail l2 l1.length listed a' W hdrop (Nat.le_refl _) hlen hI.lsize hall hlo ?_
    have e : a' = putAll l1 (l1.map fun o => match o.dst with | none => undef | some d => a'.tmps.getD d undef) a := by
      refine act_eq (by rw [putAll_size]; exact hI.size) (by rw [putAll_defers]; exact hI.defers) ?_
      intro d hlt
      by_cases hm : d ∈ l1.filterMap (·.dst)
      · obtain ⟨o, ho, hod⟩ := List.mem_filterMap.1 hm
        obtain ⟨j, hj⟩ := List.getElem?_of_mem ho
        have hjl : j < l1.length := (List.getElem?_eq_some_iff.1 hj).1
        rw [putAll_self l1 _ a j o d (by simp) hj hod (fun i p hp e => uniqB_spec hun (by rw [← hl1 i (List.getElem?_eq_some_iff.1 hp).1]; exact hp) (by rw [← hl1 j hjl]; exact hj) e hod) (by rw [← hI.size]; exact hlt)]
        rw [List.getD_eq_getElem?_getD, List.getElem?_map, hj]
        simp [hod]
      · rw [putAll_other l1 _ a d (fun o ho e => hm (List.mem_filterMap.2 ⟨o, ho, e⟩))]
        refine hI.old d (fun j oj hj hd => ?_)
        rcases Nat.lt_or_ge j l1.length with h | h
        · exact absurd (List.mem_filterMap.2 ⟨oj, List.mem_of_getElem? (by rw [hl1 j h]; exact hj), hd⟩) hm
        · exact hlo j h
    rw [e]
    have hvs : ∀ k, k < l1.length → (l1.map fun o => match o.dst with | none => undef | some d => a'.tmps.getD d undef).getD k undef = sv l a' k := by
      intro k hkl
      unfold sv
      rw [List.getD_eq_getElem?_getD, List.getElem?_map, hl1 k hkl]
      cases hk : l[k]? with
      | none => rfl
      | some o => cases hod : o.dst <;> simp [hod]
    refine hend _ W (by simp) hI.rel (fun j hj => ?_) (fun i j hi hj hne h1 h2 => by rw [hvs i hi, hvs j hj]; exact hIP.pair i j (by omega) (by omega) hne h1 h2 (hall i hi) (hall j hj))
    refine hst j _ _ W W (hI.new j (by omega) (hall j hj)) (fun k hk => ?_) (hRr W)
    have hkj : k ≤ j := by
      have h1 := List.all_eq_true.1 (List.all_eq_true.1 hreads j (List.mem_range.2 (by omega))) k hk
      simp only [Bool.or_eq_true, decide_eq_true_eq] at h1
      rcases h1 with h1 | h1
      · omega
      · exact Nat.le_of_lt (anc_back hback _ _ _ h1)
    exact hvs k (by omega)
  have main : ∀ (fuel : Nat) (listed : Array Bool) (a' : Act) (W : World), listed.toList.count false = fuel → (∀ j, l1.length ≤ j → listed.getD j false = false) → InvP al l R Φ a w listed a' W → wpAny P .any l.toArray Q fuel listed a' W := by
    intro fuel
    have cnt : ∀ (listed : Array Bool), listed.size = l.length → (∀ j, l1.length ≤ j → listed.getD j false = false) → (∀ j, j < l1.length → listed.getD j false = true) → listed.toList.count false = l.length - l1.length := by
      intro listed hs hlo hall
      have e : listed.toList = List.replicate l1.length true ++ List.replicate (l.length - l1.length) false := by
        apply List.ext_getElem?
        intro i
        by_cases hi : i < listed.size
        · have hg : ∀ b, listed.getD i false = b → listed.toList[i]? = some b := fun b hb => by
            rw [getD_of_lt hi false true] at hb
            simp only [Array.getD_eq_getD_getElem?, Array.getElem?_eq_getElem hi, Option.getD_some] at hb
            simp [hi, hb]
          by_cases h : i < l1.length
          · rw [hg true (hall i h), List.getElem?_append_left (by simpa using h)]
            simp [h]
          · rw [hg false (hlo i (by omega)), List.getElem?_append_right (by simp; omega), List.getElem?_replicate, if_pos (by rw [List.length_replicate]; omega)]
        · rw [List.getElem?_eq_none (by simpa using hi), List.getElem?_eq_none (by simp; omega)]
      rw [e, List.count_append, List.count_replicate, List.count_replicate]
      simp
    induction fuel with
    | zero =>
      intro listed a' W hc hlo hIP
      have hI := hIP.g
      have hall' : ∀ i, i < l.length → listed.getD i false = true := by
        intro i hi
        have hi' : i < listed.size := by rw [hI.lsize]; exact hi
        cases hb : listed.getD i false with
        | true => rfl
        | false =>
          exfalso
          have : false ∈ listed.toList := by
            simp only [Array.getD_eq_getD_getElem?, Array.getElem?_eq_getElem hi', Option.getD_some] at hb
            rw [← hb]; simp
          have := List.count_pos_iff.2 this
          omega
      have hall : ∀ i, i < l1.length → listed.getD i false = true := fun i hi => hall' i (by omega)
      have hc2 := cnt listed hI.lsize hlo hall
      have := fin listed a' W hc2 hlo hall hIP
      rw [show l.length - l1.length = 0 by omega] at this
      exact this
    | succ fuel ih =>
      intro listed a' W hc hlo hIP
      have hI := hIP.g
      by_cases hall : ∀ j, j < l1.length → listed.getD j false = true
      · have hc2 := cnt listed hI.lsize hlo hall
        have := fin listed a' W hc2 hlo hall hIP
        rw [show l.length - l1.length = fuel + 1 by omega] at this
        exact this
      · obtain ⟨j0, hj0⟩ := Classical.not_forall.1 hall
        obtain ⟨hj0l, hj0f⟩ := Classical.not_imp.1 hj0
        refine ⟨fun h0 => ?_, fun i hi => ?_⟩
        · exact absurd (all_listed hback hI.lsize h0 j0 (by omega)) hj0f
        · obtain ⟨hl0, o, ho, hwait⟩ := mem_ready.1 hi
          have ho' : l[i]? = some o := by simpa using ho
          have hil : i < l.length := (List.getElem?_eq_some_iff.1 ho').1
          have hil' : i < listed.size := by rw [hI.lsize]; exact hil
          have hlf : listed.getD i false = false := by
            rw [getD_of_lt hil' false true]; exact hl0
          have hanc : ∀ n k, ancB l n i k = true → listed.getD k false = true := by
            intro n k hk
            cases n with
            | zero => simp [ancB] at hk
            | succ n =>
              unfold ancB at hk
              rw [ho'] at hk
              obtain ⟨e, he, hh⟩ := List.any_eq_true.1 hk
              simp only [Bool.and_eq_true, Bool.or_eq_true, decide_eq_true_eq] at hh
              have h1 := hwait e (by simpa using he) hh.1
              rcases hh.2 with h2 | h2
              · rw [← h2]; exact h1
              · exact hI.down.anc n e.on k h1 h2
          have hi1 : i < l1.length := by
            rcases Nat.lt_or_ge i l1.length with h | h
            · exact h
            · exact absurd (hanc _ _ (tailB_spec htail hil h (by omega : j0 < i))) hj0f
          have hAt : AtG l R Φ a w i o a' W := ⟨hI.rel, hI.size, hI.defers,
            fun d hd => hI.old d (fun j oj hj hdj => by
              have hji := hd j oj hj hdj
              cases hlj : listed.getD j false with
              | false => rfl
              | true =>
                have := hI.down.anc _ j i hlj hji
                rw [hlf] at this; cases this),
            fun j hj ha => hI.new j hj (hanc _ j ha)⟩
          have hG := hstep i o (by rw [hl1 i hi1]; exact ho') a' W hAt
          have hnext : ∀ v W2, R W W2 → (∀ s : Nat → Value, (o.dst.isSome = true → s i = v) → (∀ k, k ≠ i → ancB l l.length i k = true → s k = sv l a' k) → Φ i s W2) → (al i = true → o.dst.isSome = true ∧ ∀ j s, al j = true → Φ j s W → v ≠ s j) → wpAny P .any l.toArray Q fuel (listed.setIfInBounds i true) (a'.put o.dst v) W2 := by
            intro v W2 hR hv hfr
            have hin' : ∀ d ∈ l.filterMap (·.dst), d < a'.tmps.size := fun d hd => by rw [hI.size]; exact hin d hd
            have hset : ∀ j, j ≠ i → (listed.setIfInBounds i true).getD j false = listed.getD j false := fun j hj => getD_set_ne false (Ne.symm hj)
            refine ih _ _ _ ?_ (fun j hj => by rw [hset j (by omega)]; exact hlo j hj) ?_
            · have := count_set listed.toList i (by simp [hil']; simpa [Array.getD_eq_getD_getElem?, hil'] using hlf)
              rw [Array.toList_setIfInBounds]; omega
            · refine ⟨⟨hRt hI.rel hR, by simpa using hI.lsize, by rw [put_size]; exact hI.size, by rw [put_defers]; exact hI.defers, ?_, ?_, ?_⟩, ?_⟩
              · intro d hd
                have hne : o.dst ≠ some d := fun e => by
                  have := hd i o ho' e
                  simp [Array.getD_eq_getD_getElem?, hil'] at this
                rw [put_other hne]
                refine hI.old d (fun j oj hj hdj => ?_)
                by_cases hji : j = i
                · subst hji; exact hlf
                · have := hd j oj hj hdj
                  rwa [hset j hji] at this
              · intro j hj hlj
                by_cases hji : j = i
                · subst hji
                  exact hv _ (fun hd => sv_put_self ho' hin' hd) (fun k hk _ => sv_put_other hun ho' hk)
                · rw [hset j hji] at hlj
                  refine hst j _ _ _ _ (hI.new j hj hlj) (fun k hk => sv_put_other hun ho' ?_) hR
                  rintro rfl
                  have h1 := List.all_eq_true.1 (List.all_eq_true.1 hreads j (List.mem_range.2 hj)) k hk
                  simp only [Bool.or_eq_true, decide_eq_true_eq] at h1
                  rcases h1 with h1 | h1
                  · exact hji h1.symm
                  · have := hI.down.anc _ j k hlj h1
                    rw [hlf] at this; cases this
              · intro j oj hj hlj e he hb
                by_cases hji : j = i
                · subst hji
                  rw [ho'] at hj; cases hj
                  exact getD_set_true (hwait e he hb)
                · rw [hset j hji] at hlj
                  exact getD_set_true (hI.down j oj hj hlj e he hb)
              · have key : ∀ j, j < l.length → j ≠ i → al i = true → al j = true → (listed.setIfInBounds i true).getD j false = true → sv l (a'.put o.dst v) i ≠ sv l (a'.put o.dst v) j := by
                  intro j hj hji h1 h2 hlj
                  rw [hset j hji] at hlj
                  obtain ⟨hd, hf⟩ := hfr h1
                  rw [sv_put_self ho' hin' hd, sv_put_other hun ho' hji]
                  exact hf j (sv l a') h2 (hI.new j hj hlj)
                intro i1 j1 hI1 hJ1 hne h1 h2 hl1' hl2'
                by_cases e1 : i1 = i
                · subst e1
                  exact key j1 hJ1 (Ne.symm hne) h1 h2 hl2'
                · by_cases e2 : j1 = i
                  · subst e2
                    exact (key i1 hI1 e1 h2 h1 hl1').symm
                  · rw [sv_put_other hun ho' e1, sv_put_other hun ho' e2]
                    rw [hset i1 e1] at hl1'
                    rw [hset j1 e2] at hl2'
                    exact hIP.pair i1 j1 hI1 hJ1 hne h1 h2 hl1' hl2'
          unfold wpOp
          rw [show l.toArray[i]? = some o by simpa using ho']
          unfold GoesP at hG
          by_cases hwant : Region.wanted o (yielded l.toArray a'.tmps) = true
          · rw [if_pos hwant] at hG
            simp only [hwant, if_true]
            exact .inl (Oper.wp_mono (fun a2 W2 ⟨v, e, hR, hv, hf⟩ => by rw [e]; exact hnext v W2 hR hv hf) hG)
          · rw [if_neg hwant] at hG
            simp only [hwant]
            exact hnext undef W hG.1 hG.2.1 (fun e => by rw [hG.2.2] at e; cases e)
  have h0 := main l.length (Array.replicate l.length false) a { w with drawn := w.drawn + 1 } (by simp) (fun j _ => getD_false _ _)
    ⟨⟨hR0 w, by simp, rfl, rfl, fun _ _ => rfl, (fun j _ h => by rw [getD_false] at h; cases h), (fun j oj _ h => by rw [getD_false] at h; cases h)⟩, (fun i j _ _ _ _ _ h => by rw [getD_false] at h; cases h)⟩
  simpa using h0

/-- a store of a whole row, in a list -/
theorem wpList_row {P : Program} {ops : Array Oper} {Q : Exit → Act → World → Prop} {rest : List Oper} {o : Oper} {a : Act} {w : World} (hg : o.guard = none) (ty : TypeId) (x y : Operand) (ho : o.op = .store ty x y)
    (g : Nat) (cells : Array Value) (hx : a.eval x = .pointer (some ⟨g, 0, none⟩)) (hy : a.eval y = .agg cells) (t : TypeId) (old : Array Value) (hh : w.heap[g]? = some (.cells old t (0, 0))) (hi : (P.info? ty).map (·.size) = some cells.size)
    (hold : old.size = cells.size) (h1 : cells.all (·.oneCell') = true) (h : wpList P ops Q rest (a.put o.dst undef) (w.setRow g cells)) : wpList P ops Q (o :: rest) a w :=
  wpList_plain hg fun K hK => wp_store_row ty x y ho g cells hx hy t old hh hi hold h1 (hK _ _ h)
end Go.Proofs.YtmbkjccckmlacaaDoor

