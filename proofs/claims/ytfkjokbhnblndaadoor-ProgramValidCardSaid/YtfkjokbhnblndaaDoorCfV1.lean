/- What Registers yields in a valid program. (With it: Slices of integers of the call's own, to which it appends (the part of XApp that knows no function).; slices.DeleteFunc of integers, with a closure.; program.ascending.; program.Next.; As wp_appI (RowI); the other blocks stay.; Two rows of integers of the call's own, one in a box: append to either.; program.Registers where no cases are.; As Rt, inside a round of a range over a function.; program.Registers of a select.; ProgramValid: plain.; Visible, Cancellable, slices.IsSorted, the closures of ProgramValid.) -/
import Derived.Test.YtfkjokbhnblndaaDoorRows
import Derived.Lib.AppendStr
import Derived.Deep.OwnRows
import Derived.Lib.SmallJoins
import Derived.Maps.AppendAt
import Derived.OwnWalk
import Derived.Sort.OwnSortedInts
import Derived.Lib.OwnBridge
import Derived.Lib.SlicesCompact
import Derived.RangeFuncBox
import Derived.Laws.AppendOwnNone
import Derived.Deep.Cut
import Derived.LoopIn
import Derived.Maps.OwnIn
import Derived.Sort.CutIn
import Derived.Test.YtfkjokbhnblndaaDoorISl
import Derived.Test.YtfkjokbhnblndaaDoorPgE
import Derived.Test.YtfkjokbhnblndaaDoorShelf
import Derived.Test.YtfkjokbhnblndaaDoorPgP
import Derived.Test.YtfkjokbhnblndaaDoorPgV
import Derived.Test.YtfkjokbhnblndaaDoorPgU
import Derived.Test.YtfkjokbhnblndaaDoorPgF3
import Derived.Test.YtfkjokbhnblndaaDoorRt
import Derived.Test.YtfkjokbhnblndaaDoorRw
import Derived.Test.YtfkjokbhnblndaaDoorPgK
import Derived.Test.YtfkjokbhnblndaaDoorPgW

namespace Go.Proofs.YtfkjokbhnblndaaDoor
open Go.RowKit
set_option linter.unusedVariables false

theorem ownsRow_extI {base : Nat} {e : TypeId} {k : Nat} {v : Value} {n : Nat} {xs : List Value} {w w' : World} (h : w.ownsRow base e k v n xs) (hb : Below w.heap.size w w') : w'.ownsRow base e k v n xs :=
  h.kept (row := none) ⟨hb.os, hb.tape, hb.output, hb.size, fun i hi _ => hb.block i hi⟩ (by cases v.ownBlock with | none => exact .inl rfl | some j => exact .inr (by simp))
variable {ops : Array Oper} {rest : List Oper} {o : Oper} {a : Act} {Q : Exit → Act → World → Prop}
/-- v is a slice of integers of the call's own, holding l -/
def RowI (base : Nat) (v : Value) (l : List Int) (w : World) : Prop := w.ownsRow base 3 1 v l.length (l.map (Value.int .i64))
theorem infoI' : (Tryd.prog.info? 3).map (fun i => (i.zero, i.size, i.bytes)) = some (some (.int .i64 0), 1, 8) := by kernel_rfl
theorem RowI.nil (base : Nat) (w : World) : RowI base (.slice none 0 0) [] w := World.ownsRow_nil _ _ _ _
theorem RowI.empty (w : World) (base : Nat) (hb : base ≤ w.heap.size) : RowI base (.slice (some ⟨w.heap.size, 0, none⟩) 0 0) [] (w.alloc (.cells #[] 3)) :=
  World.ownsRow_lit w #[] 0 hb (by unfold maxLen; omega) (by simp)
theorem RowI.ext {base : Nat} {v : Value} {l : List Int} {w w' : World} (h : RowI base v l w) (hb : Below w.heap.size w w') : RowI base v l w' := ownsRow_extI h hb
theorem RowI.forms {base : Nat} {v : Value} {l : List Int} {w : World} (h : RowI base v l w) : (v = .slice none 0 0 ∧ l.length = 0) ∨ ∃ g cap, v = .slice (some ⟨g, 0, none⟩) l.length cap := Go.Joins.ownsRow_forms h
theorem RowI.ints {base : Nat} {v : Value} {l : List Int} {w : World} (h : RowI base v l w) : ∃ x c, v = .slice x l.length c ∧ IntsAt w x l ∧ (∀ y, x = some y → base ≤ y.block) ∧ (x = none → c = 0) := by
  rcases h.forms with ⟨rfl, h0⟩ | ⟨g, cap, rfl⟩
  · obtain rfl := List.eq_nil_of_length_eq_zero h0
    exact ⟨none, 0, rfl, IntsAt.nil, (fun y e => by cases e), fun _ => rfl⟩
  · refine ⟨_, _, rfl, fun i hi => ⟨_, _, rfl, ?_⟩, (fun y e => by cases e; exact (World.ownsRow.lt h g rfl).1), (fun e => by cases e)⟩
    rw [Nat.zero_add, World.ownsRow.cellAt h i (by omega)]
    simp [hi]

theorem wp_appI (hgd : o.guard = none) (s x : Operand) (ho : o.op = .call { callee := .builtin .append, args := #[s, x], argTypes := #[54, 54] })
    (base : Nat) (v : Value) (l : List Int) (hs : a.eval s = v) (W : World) (h : RowI base v l W) (n : Int) (hx : a.eval x = .slice (some ⟨W.heap.size, 0, none⟩) 1 1) (hlen : l.length ≤ 10000000000) (hbase : base ≤ W.heap.size)
    (hK : ∀ v' w', RowI base v' (l ++ [n]) w' → Below base W w' → wpList Tryd.prog ops Q rest (a.put o.dst v') w') : wpList Tryd.prog ops Q (o :: rest) a (W.alloc (.cells #[.int .i64 n] 3)) := by
  obtain ⟨i0, hi, hz0, hz1, hz2⟩ := info_parts infoI'
  refine wpList_append_own _ hgd s x 54 ho base 3 i0 (.int .i64 0) 1 8 Tryd.underlying54 hi hz0 hz1 hz2 rfl (by decide) v l.length (l.map (Value.int .i64)) hs (World.ownsRow.alloc h _) ⟨W.heap.size, 0, none⟩ 1 1 [.int .i64 n] hx rfl (cell_one_new _ _ _) (by simp [Value.oneCell']) (by unfold maxLen; omega) (by omega) (by simp; omega) ?_
  intro v' w' hown hg _
  refine hK v' w' ?_ ?_
  · unfold RowI
    simpa using hown
  · exact ((Below.refl base W).alloc hbase _).grown hg (by simp; omega) (fun k e => (World.ownsRow.lt h k e).1)

end Go.Proofs.YtfkjokbhnblndaaDoor

namespace Go.Proofs.YtfkjokbhnblndaaDoor
open Go.RowKit
set_option linter.unusedVariables false
set_option linter.unusedSimpArgs false

theorem Calls_argI {P : Program} {f : FuncId} {args args' : Array Value} {w : World} {Q : Ending → World → Prop} (h : Calls P f args w Q) (e : args = args') : Calls P f args' w Q := e ▸ h
def noI (q : Int → Bool) (l : List Int) (j : Nat) : Bool := (l.take j).all fun x => !q x
theorem noI_succ (q : Int → Bool) (l : List Int) (j : Nat) (h : j < l.length) : noI q l (j + 1) = (noI q l j && !q l[j]) := by
  unfold noI
  rw [List.take_succ_eq_append_getElem h, List.all_append]
  simp
def delI (q : Int → Bool) (l : List Int) : List Int := l.filter fun x => !q x
theorem delI_none {q : Int → Bool} {l : List Int} {j : Nat} (h : noI q l j = true) : delI q (l.take j) = l.take j := by
  unfold delI
  unfold noI at h
  rw [List.filter_eq_self]
  intro b hb
  exact List.all_eq_true.1 h b hb
theorem delI_succ (q : Int → Bool) (l : List Int) (j : Nat) (h : j < l.length) : delI q (l.take (j + 1)) = delI q (l.take j) ++ (if q l[j] = true then [] else [l[j]]) := by
  unfold delI
  rw [List.take_succ_eq_append_getElem h, List.filter_append]
  congr 1
  cases hq : q l[j] <;> simp [hq]
/-- what DeleteFunc has made of the first j -/
structure DJ (q : Int → Bool) (l : List Int) (i j : Nat) (R : List Int) : Prop where
  lt : i < j
  len : R.length = l.length
  low : R.take i = delI q (l.take j)
  high : ∀ k, j ≤ k → R[k]? = l[k]?
theorem DJ.start {q : Int → Bool} {l : List Int} {j : Nat} (h : j < l.length) (h0 : noI q l j = true) (h1 : q l[j] = true) : DJ q l j (j + 1) l :=
  ⟨by omega, rfl, by rw [delI_succ q l j h, if_pos h1, List.append_nil, delI_none h0], fun _ _ => rfl⟩
theorem DJ.skip {q : Int → Bool} {l : List Int} {i j : Nat} {R : List Int} (h : DJ q l i j R) (hj : j < l.length) (h1 : q l[j] = true) : DJ q l i (j + 1) R :=
  ⟨by have := h.lt; omega, h.len, by rw [delI_succ q l j hj, if_pos h1, List.append_nil, h.low], fun k hk => h.high k (by omega)⟩
theorem DJ.keep {q : Int → Bool} {l : List Int} {i j : Nat} {R : List Int} (h : DJ q l i j R) (hj : j < l.length) (h1 : q l[j] = false) : DJ q l (i + 1) (j + 1) (R.set i l[j]) := by
  have hi := h.lt
  have hl := h.len
  refine ⟨by omega, by rw [List.length_set]; exact hl, ?_, fun k hk => ?_⟩
  · rw [delI_succ q l j hj, if_neg (by simp [h1]), ← h.low, List.take_succ_eq_append_getElem (by rw [List.length_set]; omega), List.getElem_set_self, List.take_set_of_le (Nat.le_refl _)]
  · rw [List.getElem?_set_ne (by omega)]
    exact h.high k (by omega)
theorem DJ.done {q : Int → Bool} {l : List Int} {i : Nat} {R : List Int} (h : DJ q l i l.length R) : R.take i = delI q l := by
  rw [h.low, List.take_length]
theorem DJ.get {q : Int → Bool} {l : List Int} {i j : Nat} {R : List Int} (h : DJ q l i j R) (hj : j < l.length) : ∃ h' : j < R.length, R[j] = l[j] := by
  have h' : j < R.length := by rw [h.len]; exact hj
  refine ⟨h', ?_⟩
  have := h.high j (Nat.le_refl _)
  rw [List.getElem?_eq_getElem h', List.getElem?_eq_getElem hj] at this
  exact Option.some.inj this

theorem RowI.cell {base g cap : Nat} {l : List Int} {w : World} (h : RowI base (.slice (some ⟨g, 0, none⟩) l.length cap) l w) (i : Nat) (hi : i < l.length) : w.cell? ⟨g, i, none⟩ = some (.int .i64 l[i]) := by
  rw [World.ownsRow.cellAt h i (by simpa using hi)]
  simp [hi]
theorem RowI.store {base g cap : Nat} {l : List Int} {w : World} (h : RowI base (.slice (some ⟨g, 0, none⟩) l.length cap) l w) (i : Nat) (x : Int) : RowI base (.slice (some ⟨g, 0, none⟩) l.length cap) (l.set i x) (w.setCell ⟨g, i, none⟩ (.int .i64 x)) := by
  obtain ⟨h1, _⟩ := World.ownsRow.stored h i (.int .i64 x)
  unfold RowI
  simpa [List.map_set] using h1
/-- a store of cells from o on leaves the row's head -/
theorem rowI_cells_set {base g cap n : Nat} {e : TypeId} : ∀ (vs : List Value) (o : Nat) (xs : List Value) (w : World), w.ownsRow base e 1 (.slice (some ⟨g, 0, none⟩) n cap) n xs →
    ∃ ys, ys.take o = xs.take o ∧ (w.setCells g o vs).ownsRow base e 1 (.slice (some ⟨g, 0, none⟩) n cap) n ys ∧ Below base w (w.setCells g o vs)
  | [], o, xs, w, h => ⟨xs, rfl, h, Below.refl _ _⟩
  | v :: vs, o, xs, w, h => by
    obtain ⟨h1, _⟩ := World.ownsRow.stored h o v
    obtain ⟨ys, h2, h3, h4⟩ := rowI_cells_set vs (o + 1) _ _ h1
    refine ⟨ys, ?_, h3, Below.trans ((Below.refl base w).setCell (p := ⟨g, o, none⟩) (World.ownsRow.lt h g rfl).1 v) h4⟩
    have e1 := congrArg (List.take o) h2
    rw [List.take_take, List.take_take, Nat.min_eq_left (by omega), List.take_set_of_le (Nat.le_refl _)] at e1
    exact e1
theorem rowI_cut {base g cap n : Nat} {e : TypeId} {xs : List Value} {w : World} (h : w.ownsRow base e 1 (.slice (some ⟨g, 0, none⟩) n cap) n xs) (k : Nat) (hk : k ≤ n) : w.ownsRow base e 1 (.slice (some ⟨g, 0, none⟩) k cap) k (xs.take k) := by
  obtain ⟨h1, h2⟩ := h
  rcases h2 with ⟨e0, _⟩ | ⟨g', cap', cur, e0, hb, hg, hn, hm, hs, ht⟩
  · cases e0
  · injection e0 with e1 _ e3
    injection e1 with e1
    injection e1 with e1
    subst e1; subst e3
    have hx : xs.length = n := by omega
    refine ⟨by rw [List.length_take]; omega, .inr ⟨g, cap, cur, rfl, hb, hg, by omega, hm, hs, ?_⟩⟩
    rw [← ht, List.take_take]
    congr 1
    omega
/-- the cells that clear writes -/
def zerosI (n : Nat) : List Value := (Builtin.zeroCells #[.int .i64 0] n).toList
theorem zerosI_length (n : Nat) : (zerosI n).length = n := by simp [zerosI, Builtin.zeroCells]
theorem clearI_run (ty : TypeId) (g o n c : Nat) (w : World) (hn : 0 < n) (hc : ∀ j, j < n → (w.cell? ⟨g, o + j, none⟩).isSome = true) (hf : ∀ j, j < n → w.frozen? ⟨g, o + j, none⟩ = false) :
    (Builtin.clear_ #[54] ty #[.slice (some ⟨g, o, none⟩) n c]).run Tryd.prog w = .ok (.tuple #[]) (w.setCells g o (zerosI n)) := by
  have hv : ∀ w, (zeroValue 3).run Tryd.prog w = .ok (.int .i64 0) w := fun w => by kernel_rfl
  have hst := run_storeCells_cells (P := Tryd.prog) g o (zerosI n) 0 w (by rw [zerosI_length]; simpa using hc) (by rw [zerosI_length]; simpa using hf) (by
    intro v hv'
    unfold zerosI Builtin.zeroCells at hv'
    simp only [Array.toList_map, List.mem_map] at hv'
    obtain ⟨i, _, rfl⟩ := hv'
    show (#[Value.int .i64 0][i % 1]!).oneCell' = true
    rw [Nat.mod_one]; rfl)
  simp only [Nat.add_zero] at hst
  obtain ⟨m, rfl⟩ : ∃ m, n = m + 1 := ⟨n - 1, by omega⟩
  unfold zerosI at hst ⊢
  simp [Builtin.clear_, run_underlying Tryd.underlying54, hv, Value.cells, hst]

set_option maxHeartbeats 1000000 in
theorem IdxA_any (q : Int → Bool) (l : List Int) (p : Option Addr) (c : Nat) (w : World) (hl : l.length ≤ maxLen) (hA : IntsAt w p l) (hF : ∀ n W, Ext w W → Gives Tryd.prog 88 #[.int .i64 n] W (.bool (q n))) :
    Calls Tryd.prog 61 #[.slice p l.length c, .func (.func 88) #[] #[]] w fun e w' =>
      Ext w w' ∧ ((noI q l l.length = true ∧ e = .returned (.int .i64 (-1))) ∨ ∃ j, ∃ h : j < l.length, noI q l j = true ∧ q l[j] = true ∧ e = .returned (.int .i64 (j : Int))) := by
  have en := enters_fn Tryd.func88 (by kernel_rfl) rfl
  unfold maxLen at hl
  have HA := Lib.hid hA
  have HS := Lib.hid (noI_succ q l)
  have HF := Lib.hid hF
  clear hA hF
  go_enter Tryd.func61, Tryd.ntmps61
  go_wp2
  go_loopw [8] (fun i wr => ∃ j : Nat, j ≤ l.length ∧ i = .int .i64 (j : Int) ∧ noI q l j = true ∧ Ext w wr) (fun i _ => l.length - (intOf i).toNat)
  case atStart => exact ⟨0, Nat.zero_le _, rfl, rfl, Below.refl _ _⟩
  case round =>
    obtain ⟨j, hj, rfl, hk, hE⟩ := hrel
    have HK := Lib.hid hk
    have HE := Lib.hid hE
    by_cases hlt : j < l.length
    · obtain ⟨b, off, rfl, hcs⟩ := (HA.out.below hE) j hlt
      have FC := Lib.hid (fun W (hW : Ext wr W) => HF.out l[j] W (Ext.trans HE.out hW))
      have hs := Lib.hid (HS.out j hlt)
      cases hb : q l[j] with
      | true =>
        rw [hb] at FC
        have HR := Lib.hid hb
        have HX := Lib.hid (show ∀ w', Ext wr w' → (Ext w w' ∧ ((noI q l l.length = true ∧ Ending.returned (.int .i64 (j : Int)) = .returned (.int .i64 (-1))) ∨ ∃ j', ∃ h : j' < l.length, noI q l j' = true ∧ q l[j'] = true ∧ Ending.returned (.int .i64 (j : Int)) = .returned (.int .i64 (j' : Int)))) from fun w' h => ⟨Ext.trans HE.out h, .inr ⟨j, hlt, HK.out, HR.out, rfl⟩⟩)
        clear hk hE hb hs HR HK HE HF HS
        generalize l[j] = x at *
        go_wp2_with fail
        refine (FC.out _ (Below.refl _ _)).mono ?_
        intro w1 hB1
        go_wp2
        go_ret
        exact HX.out _ hB1
      | false =>
        rw [hb] at FC
        have HR := Lib.hid (show noI q l (j + 1) = true by rw [hs.out, HK.out]; simp [hb])
        clear hk hE hb hs HK HF HS
        generalize l[j] = x at *
        go_wp2_with fail
        refine (FC.out _ (Below.refl _ _)).mono ?_
        intro w1 hB1
        go_wp2
        go_roundw
        case rel => exact ⟨j + 1, by omega, by go_num, HR.out, Ext.trans HE.out hB1⟩
        case measure => simp [intOf]; omega
    · obtain rfl : j = l.length := by omega
      have HR := Lib.hid HK.out
      clear hk hE
      go_wp2
      go_ret
      exact ⟨HE.out, .inl ⟨HR.out, rfl⟩⟩

set_option maxRecDepth 100000 in
set_option maxHeartbeats 4000000 in
theorem DelA_any (q : Int → Bool) (l : List Int) (base : Nat) (v : Value) (w : World) (hl : l.length ≤ 4398046510976) (hR : RowI base v l w) (hbase : base ≤ w.heap.size) (hF : ∀ n W, Below base w W → Gives Tryd.prog 88 #[.int .i64 n] W (.bool (q n))) :
    Calls Tryd.prog 63 #[v, .func (.func 88) #[] #[]] w fun e w' => ∃ v', e = .returned v' ∧ RowI base v' (delI q l) w' ∧ Below base w w' := by
  have en := enters_fn Tryd.func88 (by kernel_rfl) rfl
  obtain ⟨p, c, rfl, hA, _, _⟩ := hR.ints
  have IC := Lib.hid (IdxA_any  q l p c w (by unfold maxLen; omega) hA (fun n W hW => hF n W (hW.mono hbase)))
  have HR := Lib.hid hR
  have HD0 := Lib.hid (show noI q l l.length = true → delI q l = l from fun h => by have := delI_none h; rwa [List.take_length] at this)
  have HST := Lib.hid (fun j h h0 h1 => DJ.start (q := q) (l := l) (j := j) h h0 h1)
  have FC := Lib.hid hF
  obtain ⟨m, hm⟩ : ∃ m, l.length = m := ⟨_, rfl⟩
  have HM := Lib.hid hm
  rw [hm] at hl
  rw [hm]
  have IC := Lib.hid (Calls_argI IC.out (show _ = #[.slice p m c, .func (.func 88) #[] #[]] by rw [hm]))
  clear hA hR hF hm
  go_enter Tryd.func63, Tryd.ntmps63
  go_wp2_with fail
  refine IC.out.mono ?_
  rintro e w1 ⟨hE1, ⟨hno, rfl⟩ | ⟨j0, hj0, h0, h1, rfl⟩⟩
  · have HNO := Lib.hid (HD0.out hno)
    have HE1 := Lib.hid hE1
    clear hno hE1
    go_wp2
    go_ret
    exact ⟨_, rfl, by rw [HNO.out, ← HM.out]; exact HR.out.ext HE1.out, HE1.out.mono hbase⟩
  · have hj0' : j0 < l.length := hj0
    have hj0m : j0 < m := by rw [← HM.out]; exact hj0
    have HS0 := Lib.hid (HST.out j0 hj0' h0 h1)
    have HE1 := Lib.hid hE1
    have hne1 : ((j0 : Int) == -1) = false := beq_eq_false_iff_ne.2 (by omega)
    obtain ⟨g, cap, hpg⟩ : ∃ g cap, Value.slice p l.length c = .slice (some ⟨g, 0, none⟩) l.length cap := by
      rcases HR.out.forms with ⟨e, e2⟩ | h
      · omega
      · exact h
    injection hpg with e1 _ e3
    subst e1; subst e3
    have hgb := (World.ownsRow.lt HR.out g rfl).1
    have HR1 := Lib.hid (HR.out.ext HE1.out)
    clear h0 h1 hE1 HST HD0 IC hj0
    go_wp2_with fail
    go_loopw [5, 6, 7] (fun si sj s7 wr => ∃ (i j : Nat) (R : List Int), si = .int .i64 (i : Int) ∧ sj = .int .i64 (j : Int) ∧ j ≤ m ∧ DJ q l i j R ∧ RowI base (.slice (some ⟨g, 0, none⟩) m c) R wr ∧ Below base w wr) (fun _ sj _ _ => m - (intOf sj).toNat)
    case atStart => exact ⟨j0, j0 + 1, l, rfl, by go_num, by omega, HS0.out, by rw [← HM.out]; exact HR1.out, HE1.out.mono hbase⟩
    case round =>
      obtain ⟨i, j, R, rfl, rfl, hj, hI, hr, hE⟩ := hrel
      have HI := Lib.hid hI
      have HR2 := Lib.hid hr
      have HE := Lib.hid hE
      have hij := hI.lt
      have hRl : R.length = m := by rw [hI.len, HM.out]
      have HRL := Lib.hid hRl
      have hgr := (World.ownsRow.lt hr g rfl).2
      have hbr : base ≤ wr.heap.size := Nat.le_trans hbase HE.out.size
      clear hI hE
      by_cases hlt : j < m
      · have hjb : j < l.length := by rw [HM.out]; exact hlt
        obtain ⟨hjR, hget⟩ := HI.out.get hjb
        have hr' : RowI base (.slice (some ⟨g, 0, none⟩) R.length c) R wr := by rw [hRl]; exact hr
        have c0 := hr'.cell j hjR
        rw [hget] at c0
        have D := Lib.hid (FC.out l[j])
        have HK := Lib.hid (fun h => HI.out.keep hjb h)
        have HSK := Lib.hid (fun h => HI.out.skip hjb h)
        clear hr hr' hget
        generalize q l[j] = qq at *
        generalize l[j] = x at *
        go_wp2_with fail
        refine (D.out _ HE.out).mono ?_
        intro w4 hE4
        replace hE4 : Ext wr w4 := hE4
        have HE4 := Lib.hid hE4
        clear hE4 c0
        cases qq with
        | true =>
          have HN := Lib.hid (HSK.out rfl)
          clear HSK HK
          go_wp2
          go_roundw
          case rel => exact ⟨i, j + 1, R, rfl, by go_num, by omega, HN.out, HR2.out.ext HE4.out, Below.trans HE.out (HE4.out.mono hbr)⟩
          case measure => simp [intOf]; omega
        | false =>
          have HN := Lib.hid (HK.out rfl)
          clear HSK HK
          have hiR : i < R.length := by omega
          have hr4 : RowI base (.slice (some ⟨g, 0, none⟩) R.length c) R w4 := by rw [HRL.out]; exact HR2.out.ext HE4.out
          have e0 := hr4.cell i hiR
          have f0 : ∀ k, w4.frozen? ⟨g, k, none⟩ = false := fun k => World.ownsRow.frozenAt hr4 k
          have h1 := RowI.store hr4 i x
          have h2 : Below base w (w4.setCell ⟨g, i, none⟩ (.int .i64 x)) := Below.trans (Below.trans HE.out (HE4.out.mono hbr)) ((Below.refl _ _).setCell (p := ⟨g, i, none⟩) hgb _)
          rw [HRL.out] at h1
          have H1 := Lib.hid h1
          have H2 := Lib.hid h2
          have him : i < m := by omega
          generalize R[i] = old at *
          clear hr4 hiR h1 h2
          go_wp2
          go_roundw
          case rel => exact ⟨i + 1, j + 1, R.set i x, by go_num, by go_num, by omega, HN.out, H1.out, H2.out⟩
          case measure => simp [intOf]; omega
      · obtain rfl : j = m := by omega
        have hr' : RowI base (.slice (some ⟨g, 0, none⟩) R.length c) R wr := by rw [hRl]; exact hr
        have hcl : ∀ ty, (Builtin.clear_ #[54] ty #[.slice (some ⟨g, i, none⟩) (j - i) (c - i)]).run Tryd.prog wr = .ok (.tuple #[]) (wr.setCells g i (zerosI (j - i))) :=
          fun ty => clearI_run ty g i (j - i) (c - i) wr (by omega) (fun k hk => by
            rw [hr'.cell (i + k) (by omega)]; rfl) (fun k hk => World.ownsRow.frozenAt hr' _)
        have hcap : j ≤ c := by
          rcases hr.2 with ⟨e, _⟩ | ⟨g', cap', cur, e, _, _, hn, _⟩
          · cases e
          · cases e; exact hn
        have hltz : ¬ (j : Int) < (j : Int) := by omega
        obtain ⟨ys, hy1, hy2, hy3⟩ := rowI_cells_set (zerosI (j - i)) i _ _ hr'
        have HY2 := Lib.hid (rowI_cut hy2 i (by omega))
        have HY1 := Lib.hid hy1
        have HY3 := Lib.hid hy3
        clear hr hr' hy1 hy2 hy3
        go_wp2
        go_ret
        refine ⟨_, rfl, ?_, Below.trans HE.out HY3.out⟩
        have hd : R.take i = delI q l := by
          have h := HI.out
          rw [← HM.out] at h
          exact h.done
        have h := HY2.out
        rw [HY1.out, ← List.map_take, hd] at h
        unfold RowI
        have hli : (delI q l).length = i := by rw [← hd, List.length_take]; omega
        rw [hli]
        exact h

set_option maxHeartbeats 1000000 in
theorem IdxN_any (x1 x2 : Value) (q : Int → Bool) (l : List Int) (p : Option Addr) (c : Nat) (w : World) (hl : l.length ≤ maxLen) (hA : IntsAt w p l) (hF : ∀ n W, Ext w W → Gives Tryd.prog 64 #[.int .i64 n, x1, x2] W (.bool (q n))) :
    Calls Tryd.prog 61 #[.slice p l.length c, .func (.func 64) #[] #[x1, x2]] w fun e w' =>
      Ext w w' ∧ ((noI q l l.length = true ∧ e = .returned (.int .i64 (-1))) ∨ ∃ j, ∃ h : j < l.length, noI q l j = true ∧ q l[j] = true ∧ e = .returned (.int .i64 (j : Int))) := by
  have en := enters_fn Tryd.func64 (by kernel_rfl) rfl
  unfold maxLen at hl
  have HA := Lib.hid hA
  have HS := Lib.hid (noI_succ q l)
  have HF := Lib.hid hF
  clear hA hF
  go_enter Tryd.func61, Tryd.ntmps61
  go_wp2
  go_loopw [8] (fun i wr => ∃ j : Nat, j ≤ l.length ∧ i = .int .i64 (j : Int) ∧ noI q l j = true ∧ Ext w wr) (fun i _ => l.length - (intOf i).toNat)
  case atStart => exact ⟨0, Nat.zero_le _, rfl, rfl, Below.refl _ _⟩
  case round =>
    obtain ⟨j, hj, rfl, hk, hE⟩ := hrel
    have HK := Lib.hid hk
    have HE := Lib.hid hE
    by_cases hlt : j < l.length
    · obtain ⟨b, off, rfl, hcs⟩ := (HA.out.below hE) j hlt
      have FC := Lib.hid (fun W (hW : Ext wr W) => HF.out l[j] W (Ext.trans HE.out hW))
      have hs := Lib.hid (HS.out j hlt)
      cases hb : q l[j] with
      | true =>
        rw [hb] at FC
        have HR := Lib.hid hb
        have HX := Lib.hid (show ∀ w', Ext wr w' → (Ext w w' ∧ ((noI q l l.length = true ∧ Ending.returned (.int .i64 (j : Int)) = .returned (.int .i64 (-1))) ∨ ∃ j', ∃ h : j' < l.length, noI q l j' = true ∧ q l[j'] = true ∧ Ending.returned (.int .i64 (j : Int)) = .returned (.int .i64 (j' : Int)))) from fun w' h => ⟨Ext.trans HE.out h, .inr ⟨j, hlt, HK.out, HR.out, rfl⟩⟩)
        clear hk hE hb hs HR HK HE HF HS
        generalize l[j] = x at *
        go_wp2_with fail
        refine (FC.out _ (Below.refl _ _)).mono ?_
        intro w1 hB1
        go_wp2
        go_ret
        exact HX.out _ hB1
      | false =>
        rw [hb] at FC
        have HR := Lib.hid (show noI q l (j + 1) = true by rw [hs.out, HK.out]; simp [hb])
        clear hk hE hb hs HK HF HS
        generalize l[j] = x at *
        go_wp2_with fail
        refine (FC.out _ (Below.refl _ _)).mono ?_
        intro w1 hB1
        go_wp2
        go_roundw
        case rel => exact ⟨j + 1, by omega, by go_num, HR.out, Ext.trans HE.out hB1⟩
        case measure => simp [intOf]; omega
    · obtain rfl : j = l.length := by omega
      have HR := Lib.hid HK.out
      clear hk hE
      go_wp2
      go_ret
      exact ⟨HE.out, .inl ⟨HR.out, rfl⟩⟩

set_option maxRecDepth 100000 in
set_option maxHeartbeats 4000000 in
theorem DelN_any (x1 x2 : Value) (q : Int → Bool) (l : List Int) (base : Nat) (v : Value) (w : World) (hl : l.length ≤ 4398046510976) (hR : RowI base v l w) (hbase : base ≤ w.heap.size) (hF : ∀ n W, Below base w W → Gives Tryd.prog 64 #[.int .i64 n, x1, x2] W (.bool (q n))) :
    Calls Tryd.prog 63 #[v, .func (.func 64) #[] #[x1, x2]] w fun e w' => ∃ v', e = .returned v' ∧ RowI base v' (delI q l) w' ∧ Below base w w' := by
  have en := enters_fn Tryd.func64 (by kernel_rfl) rfl
  obtain ⟨p, c, rfl, hA, _, _⟩ := hR.ints
  have IC := Lib.hid (IdxN_any x1 x2 q l p c w (by unfold maxLen; omega) hA (fun n W hW => hF n W (hW.mono hbase)))
  have HR := Lib.hid hR
  have HD0 := Lib.hid (show noI q l l.length = true → delI q l = l from fun h => by have := delI_none h; rwa [List.take_length] at this)
  have HST := Lib.hid (fun j h h0 h1 => DJ.start (q := q) (l := l) (j := j) h h0 h1)
  have FC := Lib.hid hF
  obtain ⟨m, hm⟩ : ∃ m, l.length = m := ⟨_, rfl⟩
  have HM := Lib.hid hm
  rw [hm] at hl
  rw [hm]
  have IC := Lib.hid (Calls_argI IC.out (show _ = #[.slice p m c, .func (.func 64) #[] #[x1, x2]] by rw [hm]))
  clear hA hR hF hm
  go_enter Tryd.func63, Tryd.ntmps63
  go_wp2_with fail
  refine IC.out.mono ?_
  rintro e w1 ⟨hE1, ⟨hno, rfl⟩ | ⟨j0, hj0, h0, h1, rfl⟩⟩
  · have HNO := Lib.hid (HD0.out hno)
    have HE1 := Lib.hid hE1
    clear hno hE1
    go_wp2
    go_ret
    exact ⟨_, rfl, by rw [HNO.out, ← HM.out]; exact HR.out.ext HE1.out, HE1.out.mono hbase⟩
  · have hj0' : j0 < l.length := hj0
    have hj0m : j0 < m := by rw [← HM.out]; exact hj0
    have HS0 := Lib.hid (HST.out j0 hj0' h0 h1)
    have HE1 := Lib.hid hE1
    have hne1 : ((j0 : Int) == -1) = false := beq_eq_false_iff_ne.2 (by omega)
    obtain ⟨g, cap, hpg⟩ : ∃ g cap, Value.slice p l.length c = .slice (some ⟨g, 0, none⟩) l.length cap := by
      rcases HR.out.forms with ⟨e, e2⟩ | h
      · omega
      · exact h
    injection hpg with e1 _ e3
    subst e1; subst e3
    have hgb := (World.ownsRow.lt HR.out g rfl).1
    have HR1 := Lib.hid (HR.out.ext HE1.out)
    clear h0 h1 hE1 HST HD0 IC hj0
    go_wp2_with fail
    go_loopw [5, 6, 7] (fun si sj s7 wr => ∃ (i j : Nat) (R : List Int), si = .int .i64 (i : Int) ∧ sj = .int .i64 (j : Int) ∧ j ≤ m ∧ DJ q l i j R ∧ RowI base (.slice (some ⟨g, 0, none⟩) m c) R wr ∧ Below base w wr) (fun _ sj _ _ => m - (intOf sj).toNat)
    case atStart => exact ⟨j0, j0 + 1, l, rfl, by go_num, by omega, HS0.out, by rw [← HM.out]; exact HR1.out, HE1.out.mono hbase⟩
    case round =>
      obtain ⟨i, j, R, rfl, rfl, hj, hI, hr, hE⟩ := hrel
      have HI := Lib.hid hI
      have HR2 := Lib.hid hr
      have HE := Lib.hid hE
      have hij := hI.lt
      have hRl : R.length = m := by rw [hI.len, HM.out]
      have HRL := Lib.hid hRl
      have hgr := (World.ownsRow.lt hr g rfl).2
      have hbr : base ≤ wr.heap.size := Nat.le_trans hbase HE.out.size
      clear hI hE
      by_cases hlt : j < m
      · have hjb : j < l.length := by rw [HM.out]; exact hlt
        obtain ⟨hjR, hget⟩ := HI.out.get hjb
        have hr' : RowI base (.slice (some ⟨g, 0, none⟩) R.length c) R wr := by rw [hRl]; exact hr
        have c0 := hr'.cell j hjR
        rw [hget] at c0
        have D := Lib.hid (FC.out l[j])
        have HK := Lib.hid (fun h => HI.out.keep hjb h)
        have HSK := Lib.hid (fun h => HI.out.skip hjb h)
        clear hr hr' hget
        generalize q l[j] = qq at *
        generalize l[j] = x at *
        go_wp2_with fail
        refine (D.out _ HE.out).mono ?_
        intro w4 hE4
        replace hE4 : Ext wr w4 := hE4
        have HE4 := Lib.hid hE4
        clear hE4 c0
        cases qq with
        | true =>
          have HN := Lib.hid (HSK.out rfl)
          clear HSK HK
          go_wp2
          go_roundw
          case rel => exact ⟨i, j + 1, R, rfl, by go_num, by omega, HN.out, HR2.out.ext HE4.out, Below.trans HE.out (HE4.out.mono hbr)⟩
          case measure => simp [intOf]; omega
        | false =>
          have HN := Lib.hid (HK.out rfl)
          clear HSK HK
          have hiR : i < R.length := by omega
          have hr4 : RowI base (.slice (some ⟨g, 0, none⟩) R.length c) R w4 := by rw [HRL.out]; exact HR2.out.ext HE4.out
          have e0 := hr4.cell i hiR
          have f0 : ∀ k, w4.frozen? ⟨g, k, none⟩ = false := fun k => World.ownsRow.frozenAt hr4 k
          have h1 := RowI.store hr4 i x
          have h2 : Below base w (w4.setCell ⟨g, i, none⟩ (.int .i64 x)) := Below.trans (Below.trans HE.out (HE4.out.mono hbr)) ((Below.refl _ _).setCell (p := ⟨g, i, none⟩) hgb _)
          rw [HRL.out] at h1
          have H1 := Lib.hid h1
          have H2 := Lib.hid h2
          have him : i < m := by omega
          generalize R[i] = old at *
          clear hr4 hiR h1 h2
          go_wp2
          go_roundw
          case rel => exact ⟨i + 1, j + 1, R.set i x, by go_num, by go_num, by omega, HN.out, H1.out, H2.out⟩
          case measure => simp [intOf]; omega
      · obtain rfl : j = m := by omega
        have hr' : RowI base (.slice (some ⟨g, 0, none⟩) R.length c) R wr := by rw [hRl]; exact hr
        have hcl : ∀ ty, (Builtin.clear_ #[54] ty #[.slice (some ⟨g, i, none⟩) (j - i) (c - i)]).run Tryd.prog wr = .ok (.tuple #[]) (wr.setCells g i (zerosI (j - i))) :=
          fun ty => clearI_run ty g i (j - i) (c - i) wr (by omega) (fun k hk => by
            rw [hr'.cell (i + k) (by omega)]; rfl) (fun k hk => World.ownsRow.frozenAt hr' _)
        have hcap : j ≤ c := by
          rcases hr.2 with ⟨e, _⟩ | ⟨g', cap', cur, e, _, _, hn, _⟩
          · cases e
          · cases e; exact hn
        have hltz : ¬ (j : Int) < (j : Int) := by omega
        obtain ⟨ys, hy1, hy2, hy3⟩ := rowI_cells_set (zerosI (j - i)) i _ _ hr'
        have HY2 := Lib.hid (rowI_cut hy2 i (by omega))
        have HY1 := Lib.hid hy1
        have HY3 := Lib.hid hy3
        clear hr hr' hy1 hy2 hy3
        go_wp2
        go_ret
        refine ⟨_, rfl, ?_, Below.trans HE.out HY3.out⟩
        have hd : R.take i = delI q l := by
          have h := HI.out
          rw [← HM.out] at h
          exact h.done
        have h := HY2.out
        rw [HY1.out, ← List.map_take, hd] at h
        unfold RowI
        have hli : (delI q l).length = i := by rw [← hd, List.length_take]; omega
        rw [hli]
        exact h

end Go.Proofs.YtfkjokbhnblndaaDoor

namespace Go.Proofs.YtfkjokbhnblndaaDoor
open Go.RowKit
set_option linter.unusedVariables false
set_option linter.unusedSimpArgs false

theorem grownBy_reflI (w : World) (row : Option Nat) : w.grownBy w row := ⟨rfl, rfl, rfl, Nat.le_refl _, fun _ _ _ => rfl⟩
theorem grownBy_putI {w : World} {g q : Nat} (d : Array Int) : w.grownBy (Go.Sort.putRow (Value.int .i64) (Go.Sort.ahead w q) g 0 d) (some g) := by
  have h := grownBy_sortedI (w := w) (g := g) (n := q) (os := #[]) d
  rwa [Go.Sort.grow_empty] at h
theorem RowI.grown {base : Nat} {v : Value} {l : List Int} {w w' : World} (h : RowI base v l w) (hb : base ≤ w.heap.size) (hg : w.grownBy w' v.ownBlock) : Below base w w' :=
  (Below.refl base w).grown hg hb (fun k e => (World.ownsRow.lt h k e).1)
theorem SortI_row {base : Nat} {v : Value} {l : List Int} {w : World} (h : RowI base v l w) (hl : l.length ≤ 1000000000) :
    Calls Tryd.prog 89 #[v] w fun e w' => e = .returned (.tuple #[]) ∧ RowI base v (l.mergeSort fun x y => decide (x ≤ y)) w' ∧ w.grownBy w' v.ownBlock := by
  rcases h.2 with ⟨rfl, h0⟩ | ⟨g, cap, cur, rfl, hb, hg, hn, hm, hs, ht⟩
  · obtain rfl := List.eq_nil_of_length_eq_zero h0
    refine (Tryd.slices_Sort_int_none none 0 w).mono ?_
    rintro e w' ⟨rfl, rfl⟩
    exact ⟨rfl, by rw [List.mergeSort_nil]; exact RowI.nil _ _, grownBy_reflI _ _⟩
  · refine (Tryd.slices_Sort_int g 0 cap l w (holds_of_blockI hg (by have t := ht; rw [Nat.mul_one] at t; exact t)) (lt_of_block hg) (by omega)).mono ?_
    rintro e w' ⟨rfl, n, os, rfl⟩
    refine ⟨rfl, ?_, grownBy_sortedI _⟩
    have h := ownsRow_sortedI (n := n) (os := os) (ts := l.mergeSort fun x y => decide (x ≤ y)) (List.length_mergeSort l) hb hg hn hm hs
    unfold RowI
    rw [List.length_mergeSort]
    exact h
theorem CompactI_row {base : Nat} {v : Value} {l : List Int} {w : World} (h : RowI base v l w) (hl : l.length ≤ 1000000000) :
    Calls Tryd.prog 90 #[v] w fun e w' => ∃ v', e = .returned v' ∧ RowI base v' (Lib.compact l) w' ∧ w.grownBy w' v.ownBlock := by
  rcases h.2 with ⟨rfl, h0⟩ | ⟨g, cap, cur, rfl, hb, hg, hn, hm, hs, ht⟩
  · obtain rfl := List.eq_nil_of_length_eq_zero h0
    refine (Tryd.slices_Compact_int_empty none 0 w).mono ?_
    rintro e w' ⟨rfl, rfl⟩
    exact ⟨_, rfl, RowI.nil _ _, grownBy_reflI _ _⟩
  · refine (Tryd.slices_Compact_int g 0 cap l w (holds_of_blockI hg (by have t := ht; rw [Nat.mul_one] at t; exact t)) (by omega) hn).mono ?_
    rintro e w' ⟨rfl, q, rfl⟩
    refine ⟨_, rfl, ?_, grownBy_putI _⟩
    have hc := Lib.compact_length_le l
    have h' := Lib.ownsRow_putRow (enc := Value.int .i64) (q := q) (k := (Lib.compact l).length) (ys := Lib.compact l ++ List.replicate (l.length - (Lib.compact l).length) 0) h (by simp; omega) hc
    rw [List.take_left] at h'
    exact h'
theorem CloneI_row (l : List Int) (a : Option Addr) (c : Nat) (w : World) (hl : l.length ≤ 1000000000) (hA : IntsAt w a l) :
    Calls Tryd.prog 87 #[.slice a l.length c] w fun e w' => ∃ v', e = .returned v' ∧ RowI w.heap.size v' l w' ∧ Ext w w' := by
  cases l with
  | nil =>
    cases a with
    | none =>
      refine (Tryd.slices_Clone_int_nil 0 c w).mono ?_
      rintro e w' ⟨rfl, rfl⟩
      exact ⟨_, rfl, RowI.nil _ _, Below.refl _ _⟩
    | some a =>
      refine (Tryd.slices_Clone_int_zero a c w).mono ?_
      rintro e w' ⟨v', rfl, h1, _, h2⟩
      exact ⟨_, rfl, h1, h2⟩
  | cons x l =>
    obtain ⟨b, off, rfl, _⟩ := hA 0 (by simp)
    refine (Tryd.slices_Clone_int b off (x :: l).length c (x :: l) w (Nat.le_refl _) (by omega) (fun j hj => ?_)).mono ?_
    · obtain ⟨b', off', e, hc⟩ := hA j hj
      injection e with e
      injection e with e1 e2
      subst e1; subst e2
      rw [hc, List.getD_eq_getElem?_getD, List.getElem?_eq_getElem hj]; rfl
    · rintro e w' ⟨v', rfl, h1, _, h2⟩
      refine ⟨_, rfl, ?_, h2⟩
      rw [List.take_length] at h1
      exact h1

/-- in order, without repetition, without -1 -/
def asc (l : List Int) : List Int := Lib.compact ((delI (fun n => n == -1) l).mergeSort fun x y => decide (x ≤ y))
theorem asc1_any (n : Int) (w : World) : Gives Tryd.prog 88 #[.int .i64 n] w (.bool (n == -1)) := by
  unfold Gives
  go_enter Tryd.func88, Tryd.ntmps88
  go_wp2
  go_ret
  exact ⟨rfl, Below.refl _ _⟩
theorem delI_len (q : Int → Bool) (l : List Int) : (delI q l).length ≤ l.length := List.length_filter_le _ _
theorem asc_len (l : List Int) : (asc l).length ≤ l.length := by
  unfold asc
  refine Nat.le_trans (Lib.compact_length_le _) ?_
  rw [List.length_mergeSort]
  exact delI_len _ _
set_option maxHeartbeats 1000000 in
theorem ascending_any (l : List Int) (a : Option Addr) (c : Nat) (w : World) (hl : l.length ≤ 1000000000) (hA : IntsAt w a l) :
    Calls Tryd.prog 60 #[.slice a l.length c] w fun e w' => ∃ v', e = .returned v' ∧ RowI w.heap.size v' (asc l) w' ∧ Ext w w' := by
  have K1 := Lib.hid (CloneI_row l a c w hl hA)
  have HD := Lib.hid (delI_len (fun n => n == -1) l)
  clear hA
  go_enter Tryd.func60, Tryd.ntmps60
  go_wp2_with fail
  refine K1.out.mono ?_
  rintro _ w1 ⟨v1, rfl, hR, hE⟩
  have HR1 := Lib.hid hR
  have HE1 := Lib.hid hE
  have K2 := Lib.hid (DelA_any (fun n => n == -1) l w.heap.size v1 w1 (by omega) hR hE.size (fun n W _ => asc1_any n W))
  clear hR hE
  go_wp2_with fail
  refine K2.out.mono ?_
  rintro _ w2 ⟨v2, rfl, hR, hE⟩
  have HR2 := Lib.hid hR
  have HE2 := Lib.hid (Below.trans HE1.out hE)
  have K3 := Lib.hid (SortI_row hR (Nat.le_trans HD.out hl))
  clear hR hE
  go_wp2_with fail
  refine K3.out.mono ?_
  rintro _ w3 ⟨rfl, hR, hG⟩
  have HR3 := Lib.hid hR
  have HE3 := Lib.hid (Below.trans HE2.out (HR2.out.grown HE2.out.size hG))
  have K4 := Lib.hid (CompactI_row hR (by rw [List.length_mergeSort]; exact Nat.le_trans HD.out hl))
  clear hR hG
  go_wp2_with fail
  refine K4.out.mono ?_
  rintro _ w4 ⟨v4, rfl, hR, hG⟩
  have HR4 := Lib.hid hR
  have HE4 := Lib.hid (Below.trans HE3.out (HR3.out.grown HE3.out.size hG))
  clear hR hG
  go_wp2
  go_ret
  exact ⟨_, rfl, HR4.out, HE4.out⟩
end Go.Proofs.YtfkjokbhnblndaaDoor

namespace Go.Proofs.YtfkjokbhnblndaaDoor
open Go.RowKit
set_option linter.unusedVariables false
set_option linter.unusedSimpArgs false

/-- what can follow, before it is put in order -/
def nxL (x : Ins) (pc : Int) : List Int :=
  if x.op = 16 ∨ x.op = 21 then [] else if x.op = 13 then [x.a] else if x.op = 14 then [pc + 1, x.b] else if x.op = 35 then [pc + 1, x.c] else [pc + 1]
def nxI (n : Nat) (x : Ins) (pc : Int) : List Int := asc (delI (fun m => decide ((n : Int) ≤ m)) (nxL x pc))
def nxOk (p : Pg) (k j : Nat) : Prop := ckPg p = 0 ∧ k < p.fs.length ∧ j < ((p.fs.getD k ⟨[], 0, 0, 0, false, []⟩).code).length
/-- a row of one or two numbers of the call's own -/
theorem rowI_1 (w : World) (base n : Nat) (a : Int) (hn : w.heap.size = n) (hb : base ≤ w.heap.size) : RowI base (.slice (some ⟨n, 0, none⟩) 1 1) [a] (w.alloc (.cells #[.int .i64 a] 3)) := by
  subst hn
  have h := World.ownsRow_lit (e := 3) (size := 1) w #[.int .i64 a] 1 hb (by unfold maxLen; omega) (by simp)
  unfold RowI
  simpa using h
theorem rowI_2 (w : World) (base n : Nat) (a b : Int) (hn : w.heap.size = n) (hb : base ≤ w.heap.size) : RowI base (.slice (some ⟨n, 0, none⟩) 2 2) [a, b] (w.alloc (.cells #[.int .i64 a, .int .i64 b] 3)) := by
  subst hn
  have h := World.ownsRow_lit (e := 3) (size := 1) w #[.int .i64 a, .int .i64 b] 2 hb (by unfold maxLen; omega) (by simp)
  unfold RowI
  simpa using h
set_option maxHeartbeats 1000000 in
theorem next1_any (n : Int) (b1 b2 b o nf fc k m cc : Nat) (ca : Option Addr) (w : World) (hnf : nf ≤ 17592186044416) (hk : k < nf) (hm : m ≤ 17592186044416) (h0 : w.cell? ⟨b1, 0, none⟩ = some (.slice (some ⟨b, o, none⟩) nf fc)) (h1 : w.cell? ⟨b2, 0, none⟩ = some (.int .i64 (k : Int)))
    (h2 : w.cell? ⟨b, o + k * 6 + 5, none⟩ = some (.slice ca m cc)) : Gives Tryd.prog 64 #[.int .i64 n, .pointer (some ⟨b1, 0, none⟩), .pointer (some ⟨b2, 0, none⟩)] w (.bool (decide ((m : Int) ≤ n))) := by
  unfold Gives
  go_enter Tryd.func64, Tryd.ntmps64
  go_wp2
  go_ret
  exact ⟨by simp, Below.refl _ _⟩

theorem RowI.lower {base base' : Nat} {v : Value} {l : List Int} {w : World} (h : RowI base v l w) (hb : base' ≤ base) : RowI base' v l w := by
  refine ⟨h.1, ?_⟩
  rcases h.2 with ⟨e, e2⟩ | ⟨g, cap, cur, e, hg, h3⟩
  · exact .inl ⟨e, e2⟩
  · exact .inr ⟨g, cap, cur, e, Nat.le_trans hb hg, h3⟩
/-- what can follow, in a program -/
def nxP (p : Pg) (f pc : Int) : List Int :=
  if ckPg p = 0 ∧ 0 ≤ f ∧ f < p.fs.length ∧ 0 ≤ pc ∧ pc < ((p.fs.getD f.toNat ⟨[], 0, 0, 0, false, []⟩).code).length then nxI ((p.fs.getD f.toNat ⟨[], 0, 0, 0, false, []⟩).code).length (insAt (p.fs.getD f.toNat ⟨[], 0, 0, 0, false, []⟩) pc.toNat) pc else []
set_option maxRecDepth 100000 in
set_option maxHeartbeats 4000000 in
theorem Next_any (p : Pg) (A : PA) (f pc : Int) (w : World) (h : PgAt w p A) (hf : i64 f) (hpc : i64 pc) :
    Calls Tryd.prog 33 #[PV p A, .int .i64 f, .int .i64 pc] w fun e w' => ∃ v, e = .returned v ∧ RowI w.heap.size v (nxP p f pc) w' ∧ Ext w w' := by
  have KC := Lib.hid (fun W (hW : Ext w W) => Check_any p A W (h.ext hW))
  have HF := Lib.hid (fun W (hW : Ext w W) => (h.ext hW).fs)
  have HWF := Lib.hid h.wf
  have hnf := h.wf.nf
  have hno := h.wf.no
  have hnv := h.wf.nv
  have HLC := Lib.hid (fun k (hk : k < p.fs.length) => (h.wf.fs _ (List.getElem_mem hk)).len)
  unfold i64 at hf hpc
  obtain ⟨fa, fc, oa, oc, va, vc⟩ := A
  dsimp only [PV] at KC HF ⊢
  obtain ⟨L, hL⟩ : ∃ L, nxP p f pc = L := ⟨_, rfl⟩
  rw [hL]
  have HL := Lib.hid hL
  clear h hL
  obtain ⟨ck, hck⟩ : ∃ c, ckPg p = c := ⟨_, rfl⟩
  rw [hck] at KC
  have HCK := Lib.hid hck
  clear hck
  obtain ⟨wk, hwk⟩ : ∃ W, W = ((w.alloc (.cells #[.slice fa p.fs.length fc, .slice oa p.os.length oc, .slice va p.vs.length vc] 26)).alloc (.cells #[.int .i64 f] 3)) := ⟨_, rfl⟩
  have BX := Lib.hid (show ∀ W, Ext wk W → (W.cell? ⟨w.heap.size, 0, none⟩ = some (.slice fa p.fs.length fc) ∧ W.cell? ⟨w.heap.size, 1, none⟩ = some (.slice oa p.os.length oc) ∧ W.cell? ⟨w.heap.size, 2, none⟩ = some (.slice va p.vs.length vc) ∧ W.cell? ⟨w.heap.size + 1, 0, none⟩ = some (.int .i64 f)) from fun W hW => by
    subst hwk
    have h0 := alloc_here w (.cells #[.slice fa p.fs.length fc, .slice oa p.os.length oc, .slice va p.vs.length vc] 26)
    have h0 := (Below.heap_alloc _ (.cells #[.int .i64 f] 3) _ (lt_of_block h0)).trans h0
    have k0 := (hW.below.block _ (lt_of_block h0)).trans h0
    have h1 := alloc_here (w.alloc (.cells #[.slice fa p.fs.length fc, .slice oa p.os.length oc, .slice va p.vs.length vc] 26)) (.cells #[.int .i64 f] 3)
    simp only [World.size_alloc] at h1
    have k1 := (hW.below.block _ (lt_of_block h1)).trans h1
    exact ⟨cell_of k0 rfl, cell_of k0 rfl, cell_of k0 rfl, cell_of k1 rfl⟩)
  have HWZ := Lib.hid (show wk.heap.size = w.heap.size + 2 by rw [hwk]; simp)
  have HW := Lib.hid (show Ext w wk by rw [hwk]; exact (ext_alloc (ext_alloc (Below.refl _ _) _) _))
  have HE0 := Lib.hid (show Ext wk wk from Below.refl _ _)
  go_enter Tryd.func33, Tryd.ntmps33
  go_wp2_with fail
  rw [← hwk]
  clear hwk
  refine (KC.out _ HW.out).mono ?_
  intro w1 hE
  have HE1 := Lib.hid (Ext.trans HE0.out hE)
  have HX1 := Lib.hid (Ext.trans HW.out HE1.out)
  clear hE
  obtain ⟨d0_0, d0_1, d0_2, d1_0⟩ := BX.out _ HE1.out
  by_cases hc : ck = 0
  case neg =>
    have HN := Lib.hid (show L = [] from by rw [← HL.out]; unfold nxP; rw [if_neg]; rintro ⟨h1, _⟩; exact hc (HCK.out.symm.trans h1))
    have hcb : (ck != 0) = true := bne_iff_ne.2 hc
    go_wp2
    go_ret
    exact ⟨_, rfl, by rw [HN.out]; exact RowI.nil _ _, HX1.out⟩
  case pos =>
    subst hc
    by_cases hf0 : 0 ≤ f
    case neg =>
      have HN := Lib.hid (show L = [] from by rw [← HL.out]; unfold nxP; rw [if_neg]; rintro ⟨_, h1, _⟩; exact hf0 h1)
      have hq : f < 0 := by omega
      go_wp2
      go_ret
      exact ⟨_, rfl, by rw [HN.out]; exact RowI.nil _ _, HX1.out⟩
    case pos =>
      obtain ⟨k, rfl⟩ := Int.eq_ofNat_of_zero_le hf0
      by_cases hf1 : k < p.fs.length
      case neg =>
        have HN := Lib.hid (show L = [] from by rw [← HL.out]; unfold nxP; rw [if_neg]; rintro ⟨_, _, h1, _⟩; omega)
        have hq : (p.fs.length : Int) ≤ (k : Int) := by omega
        go_wp2
        go_ret
        exact ⟨_, rfl, by rw [HN.out]; exact RowI.nil _ _, HX1.out⟩
      case pos =>
        obtain ⟨b0, off, ca, cc, hfa, hcs, hir⟩ := HF.out _ HX1.out k hf1
        try dsimp only at hfa
        subst hfa
        have HIR := Lib.hid hir
        have HCS := Lib.hid (fun W (hW : Ext w1 W) => (hcs.ext hW).c5)
        have hlc := HLC.out k hf1
        have HGD := Lib.hid (show p.fs.getD k ⟨[], 0, 0, 0, false, []⟩ = p.fs[k] from by simp [List.getD, hf1])
        have hb0 := cell_lt2 hcs.c0
        dsimp only at hb0
        clear hir hcs
        obtain ⟨g, hg⟩ : ∃ g, p.fs[k] = g := ⟨_, rfl⟩
        rw [hg] at HIR HCS hlc HGD
        clear hg HLC
        have c5 := HCS.out w1 (Below.refl _ _)
        by_cases hp0 : 0 ≤ pc
        case neg =>
          have HN := Lib.hid (show L = [] from by rw [← HL.out]; unfold nxP; rw [if_neg]; rintro ⟨_, _, _, h1, _⟩; exact hp0 h1)
          have hq : pc < 0 := by omega
          go_wp2
          go_ret
          exact ⟨_, rfl, by rw [HN.out]; exact RowI.nil _ _, HX1.out⟩
        case pos =>
          obtain ⟨j, rfl⟩ := Int.eq_ofNat_of_zero_le hp0
          by_cases hp1 : j < g.code.length
          case neg =>
            have HN := Lib.hid (show L = [] from by rw [← HL.out]; unfold nxP; rw [if_neg]; rintro ⟨_, _, _, _, h1⟩; rw [Int.toNat_natCast, HGD.out] at h1; omega)
            have hq : (g.code.length : Int) ≤ (j : Int) := by omega
            go_wp2
            go_ret
            exact ⟨_, rfl, by rw [HN.out]; exact RowI.nil _ _, HX1.out⟩
          case pos =>
            obtain ⟨b3, o3, aa, ac, ha3, hc3, hi3, hl3⟩ := HIR.out j hp1
            subst ha3
            have HLX := Lib.hid (show L = nxI g.code.length g.code[j] (j : Int) from by
              rw [← HL.out]; unfold nxP
              rw [if_pos ⟨HCK.out, hf0, by omega, hp0, by rw [Int.toNat_natCast, HGD.out]; omega⟩, Int.toNat_natCast, Int.toNat_natCast, HGD.out, insAt_eq hp1])
            have hd3 := cell_lt2 hc3.c0
            dsimp only at hd3
            obtain ⟨v0, v1, v2, v3, v4⟩ := hc3
            clear hi3 hl3 HGD
            generalize g.code[j] = y at *
            have HXA := Lib.hid (fun o => (show Ext wk (w1.alloc o) from ext_alloc HE1.out o))
            obtain ⟨m, hm⟩ : ∃ m, g.code.length = m := ⟨_, rfl⟩
            rw [hm] at HCS HLX hlc hp1 c5
            clear hm HIR
            have hsz1 : w.heap.size + 2 ≤ w1.heap.size := by have h1 := HE1.out.size; have h2 := HWZ.out; omega
            have KD := Lib.hid (fun (n : Int) W (hW : Ext w1 W) => show Gives Tryd.prog 64 #[.int .i64 n, .pointer (some ⟨w.heap.size, 0, none⟩), .pointer (some ⟨w.heap.size + 1, 0, none⟩)] W (.bool (decide ((m : Int) ≤ n))) from by
              have hb := BX.out W (Ext.trans HE1.out hW)
              exact next1_any n w.heap.size (w.heap.size + 1) b0 off p.fs.length fc k m cc _ W hnf hf1 hlc hb.1 hb.2.2.2 (HCS.out W hW))
            by_cases h16 : y.op = 16
            case pos =>
              have q16 : (y.op == 16) = true := beq_iff_eq.2 h16
              have HNX := Lib.hid (show nxI m y (j : Int) = asc (delI (fun n => decide ((m : Int) ≤ n)) []) from by unfold nxI nxL; simp [*])
              clear HL
              go_wp2_with fail
              have HA2 := Lib.hid (show Ext w1 (w1.alloc (.cells #[.int .i64 16, .int .i64 y.a, .int .i64 y.b, .int .i64 y.c, .slice aa y.args.length ac] 56)) from ext_alloc (Below.refl _ _) _)
              refine (DelN_any (.pointer (some ⟨w.heap.size, 0, none⟩)) (.pointer (some ⟨w.heap.size + 1, 0, none⟩)) (fun n => decide ((m : Int) ≤ n)) [] w1.heap.size _ _ (by simp) (RowI.nil _ _) HA2.out.size (fun n W hW => KD.out n W (Below.trans HA2.out hW))).mono ?_
              rintro _ w3 ⟨v3', rfl, hR, hE⟩
              have HE3 := Lib.hid (Below.trans HA2.out hE)
              obtain ⟨a3, c3, rfl, hI, _, _⟩ := hR.ints
              have K4 := Lib.hid (ascending_any _ a3 c3 w3 (Nat.le_trans (delI_len _ _) (by simp)) hI)
              clear hR hE hI
              go_wp2_with fail
              refine K4.out.mono ?_
              rintro _ w4 ⟨v4', rfl, hR, hE⟩
              have HR4 := Lib.hid hR
              have HE4 := Lib.hid (Ext.trans HX1.out (Below.trans HE3.out (hE.mono HE3.out.size)))
              clear hR hE
              go_wp2
              go_ret
              exact ⟨_, rfl, by rw [HLX.out, HNX.out]; exact (show RowI w.heap.size _ _ _ from RowI.lower HR4.out (by have := HE3.out.size; omega)), HE4.out⟩
            case neg =>
              by_cases h21 : y.op = 21
              case pos =>
                have q16 : (y.op == 16) = false := beq_eq_false_iff_ne.2 h16
                have q21 : (y.op == 21) = true := beq_iff_eq.2 h21
                have HNX := Lib.hid (show nxI m y (j : Int) = asc (delI (fun n => decide ((m : Int) ≤ n)) []) from by unfold nxI nxL; simp [*])
                clear HL
                go_wp2_with fail
                have HA2 := Lib.hid (show Ext w1 (w1.alloc (.cells #[.int .i64 21, .int .i64 y.a, .int .i64 y.b, .int .i64 y.c, .slice aa y.args.length ac] 56)) from ext_alloc (Below.refl _ _) _)
                refine (DelN_any (.pointer (some ⟨w.heap.size, 0, none⟩)) (.pointer (some ⟨w.heap.size + 1, 0, none⟩)) (fun n => decide ((m : Int) ≤ n)) [] w1.heap.size _ _ (by simp) (RowI.nil _ _) HA2.out.size (fun n W hW => KD.out n W (Below.trans HA2.out hW))).mono ?_
                rintro _ w3 ⟨v3', rfl, hR, hE⟩
                have HE3 := Lib.hid (Below.trans HA2.out hE)
                obtain ⟨a3, c3, rfl, hI, _, _⟩ := hR.ints
                have K4 := Lib.hid (ascending_any _ a3 c3 w3 (Nat.le_trans (delI_len _ _) (by simp)) hI)
                clear hR hE hI
                go_wp2_with fail
                refine K4.out.mono ?_
                rintro _ w4 ⟨v4', rfl, hR, hE⟩
                have HR4 := Lib.hid hR
                have HE4 := Lib.hid (Ext.trans HX1.out (Below.trans HE3.out (hE.mono HE3.out.size)))
                clear hR hE
                go_wp2
                go_ret
                exact ⟨_, rfl, by rw [HLX.out, HNX.out]; exact (show RowI w.heap.size _ _ _ from RowI.lower HR4.out (by have := HE3.out.size; omega)), HE4.out⟩
              case neg =>
                by_cases h13 : y.op = 13
                case pos =>
                  have q16 : (y.op == 16) = false := beq_eq_false_iff_ne.2 h16
                  have q21 : (y.op == 21) = false := beq_eq_false_iff_ne.2 h21
                  have q13 : (y.op == 13) = true := beq_iff_eq.2 h13
                  have HNX := Lib.hid (show nxI m y (j : Int) = asc (delI (fun n => decide ((m : Int) ≤ n)) [y.a]) from by unfold nxI nxL; simp [*])
                  clear HL
                  go_wp2_with fail
                  have HA1 := Lib.hid (show Ext w1 (w1.alloc (.cells #[.int .i64 13, .int .i64 y.a, .int .i64 y.b, .int .i64 y.c, .slice aa y.args.length ac] 56)) from ext_alloc (Below.refl _ _) _)
                  have HA2 := Lib.hid (show Ext w1 ((w1.alloc (.cells #[.int .i64 13, .int .i64 y.a, .int .i64 y.b, .int .i64 y.c, .slice aa y.args.length ac] 56)).alloc (.cells #[.int .i64 y.a] 3)) from ext_alloc HA1.out _)
                  have HRW := Lib.hid (rowI_1 (w1.alloc (.cells #[.int .i64 13, .int .i64 y.a, .int .i64 y.b, .int .i64 y.c, .slice aa y.args.length ac] 56)) w1.heap.size (w1.heap.size + 1) (y.a) (by simp) HA1.out.size)
                  refine (DelN_any (.pointer (some ⟨w.heap.size, 0, none⟩)) (.pointer (some ⟨w.heap.size + 1, 0, none⟩)) (fun n => decide ((m : Int) ≤ n)) [y.a] w1.heap.size _ _ (by simp) HRW.out HA2.out.size (fun n W hW => KD.out n W (Below.trans HA2.out hW))).mono ?_
                  rintro _ w3 ⟨v3', rfl, hR, hE⟩
                  have HE3 := Lib.hid (Below.trans HA2.out hE)
                  obtain ⟨a3, c3, rfl, hI, _, _⟩ := hR.ints
                  have K4 := Lib.hid (ascending_any _ a3 c3 w3 (Nat.le_trans (delI_len _ _) (by simp)) hI)
                  clear hR hE hI
                  go_wp2_with fail
                  refine K4.out.mono ?_
                  rintro _ w4 ⟨v4', rfl, hR, hE⟩
                  have HR4 := Lib.hid hR
                  have HE4 := Lib.hid (Ext.trans HX1.out (Below.trans HE3.out (hE.mono HE3.out.size)))
                  clear hR hE
                  go_wp2
                  go_ret
                  exact ⟨_, rfl, by rw [HLX.out, HNX.out]; exact (show RowI w.heap.size _ _ _ from RowI.lower HR4.out (by have := HE3.out.size; omega)), HE4.out⟩
                case neg =>
                  by_cases h14 : y.op = 14
                  case pos =>
                    have q16 : (y.op == 16) = false := beq_eq_false_iff_ne.2 h16
                    have q21 : (y.op == 21) = false := beq_eq_false_iff_ne.2 h21
                    have q13 : (y.op == 13) = false := beq_eq_false_iff_ne.2 h13
                    have q14 : (y.op == 14) = true := beq_iff_eq.2 h14
                    have HNX := Lib.hid (show nxI m y (j : Int) = asc (delI (fun n => decide ((m : Int) ≤ n)) [(j : Int) + 1, y.b]) from by unfold nxI nxL; simp [*])
                    clear HL
                    go_wp2_with fail
                    have HA1 := Lib.hid (show Ext w1 (w1.alloc (.cells #[.int .i64 14, .int .i64 y.a, .int .i64 y.b, .int .i64 y.c, .slice aa y.args.length ac] 56)) from ext_alloc (Below.refl _ _) _)
                    have HA2 := Lib.hid (show Ext w1 ((w1.alloc (.cells #[.int .i64 14, .int .i64 y.a, .int .i64 y.b, .int .i64 y.c, .slice aa y.args.length ac] 56)).alloc (.cells #[.int .i64 ((j : Int) + 1), .int .i64 y.b] 3)) from ext_alloc HA1.out _)
                    have HRW := Lib.hid (rowI_2 (w1.alloc (.cells #[.int .i64 14, .int .i64 y.a, .int .i64 y.b, .int .i64 y.c, .slice aa y.args.length ac] 56)) w1.heap.size (w1.heap.size + 1) ((j : Int) + 1) (y.b) (by simp) HA1.out.size)
                    refine (DelN_any (.pointer (some ⟨w.heap.size, 0, none⟩)) (.pointer (some ⟨w.heap.size + 1, 0, none⟩)) (fun n => decide ((m : Int) ≤ n)) [(j : Int) + 1, y.b] w1.heap.size _ _ (by simp) HRW.out HA2.out.size (fun n W hW => KD.out n W (Below.trans HA2.out hW))).mono ?_
                    rintro _ w3 ⟨v3', rfl, hR, hE⟩
                    have HE3 := Lib.hid (Below.trans HA2.out hE)
                    obtain ⟨a3, c3, rfl, hI, _, _⟩ := hR.ints
                    have K4 := Lib.hid (ascending_any _ a3 c3 w3 (Nat.le_trans (delI_len _ _) (by simp)) hI)
                    clear hR hE hI
                    go_wp2_with fail
                    refine K4.out.mono ?_
                    rintro _ w4 ⟨v4', rfl, hR, hE⟩
                    have HR4 := Lib.hid hR
                    have HE4 := Lib.hid (Ext.trans HX1.out (Below.trans HE3.out (hE.mono HE3.out.size)))
                    clear hR hE
                    go_wp2
                    go_ret
                    exact ⟨_, rfl, by rw [HLX.out, HNX.out]; exact (show RowI w.heap.size _ _ _ from RowI.lower HR4.out (by have := HE3.out.size; omega)), HE4.out⟩
                  case neg =>
                    by_cases h35 : y.op = 35
                    case pos =>
                      have q16 : (y.op == 16) = false := beq_eq_false_iff_ne.2 h16
                      have q21 : (y.op == 21) = false := beq_eq_false_iff_ne.2 h21
                      have q13 : (y.op == 13) = false := beq_eq_false_iff_ne.2 h13
                      have q14 : (y.op == 14) = false := beq_eq_false_iff_ne.2 h14
                      have q35 : (y.op == 35) = true := beq_iff_eq.2 h35
                      have HNX := Lib.hid (show nxI m y (j : Int) = asc (delI (fun n => decide ((m : Int) ≤ n)) [(j : Int) + 1, y.c]) from by unfold nxI nxL; simp [*])
                      clear HL
                      go_wp2_with fail
                      have HA1 := Lib.hid (show Ext w1 (w1.alloc (.cells #[.int .i64 35, .int .i64 y.a, .int .i64 y.b, .int .i64 y.c, .slice aa y.args.length ac] 56)) from ext_alloc (Below.refl _ _) _)
                      have HA2 := Lib.hid (show Ext w1 ((w1.alloc (.cells #[.int .i64 35, .int .i64 y.a, .int .i64 y.b, .int .i64 y.c, .slice aa y.args.length ac] 56)).alloc (.cells #[.int .i64 ((j : Int) + 1), .int .i64 y.c] 3)) from ext_alloc HA1.out _)
                      have HRW := Lib.hid (rowI_2 (w1.alloc (.cells #[.int .i64 35, .int .i64 y.a, .int .i64 y.b, .int .i64 y.c, .slice aa y.args.length ac] 56)) w1.heap.size (w1.heap.size + 1) ((j : Int) + 1) (y.c) (by simp) HA1.out.size)
                      refine (DelN_any (.pointer (some ⟨w.heap.size, 0, none⟩)) (.pointer (some ⟨w.heap.size + 1, 0, none⟩)) (fun n => decide ((m : Int) ≤ n)) [(j : Int) + 1, y.c] w1.heap.size _ _ (by simp) HRW.out HA2.out.size (fun n W hW => KD.out n W (Below.trans HA2.out hW))).mono ?_
                      rintro _ w3 ⟨v3', rfl, hR, hE⟩
                      have HE3 := Lib.hid (Below.trans HA2.out hE)
                      obtain ⟨a3, c3, rfl, hI, _, _⟩ := hR.ints
                      have K4 := Lib.hid (ascending_any _ a3 c3 w3 (Nat.le_trans (delI_len _ _) (by simp)) hI)
                      clear hR hE hI
                      go_wp2_with fail
                      refine K4.out.mono ?_
                      rintro _ w4 ⟨v4', rfl, hR, hE⟩
                      have HR4 := Lib.hid hR
                      have HE4 := Lib.hid (Ext.trans HX1.out (Below.trans HE3.out (hE.mono HE3.out.size)))
                      clear hR hE
                      go_wp2
                      go_ret
                      exact ⟨_, rfl, by rw [HLX.out, HNX.out]; exact (show RowI w.heap.size _ _ _ from RowI.lower HR4.out (by have := HE3.out.size; omega)), HE4.out⟩
                    case neg =>
                      have q16 : (y.op == 16) = false := beq_eq_false_iff_ne.2 h16
                      have q21 : (y.op == 21) = false := beq_eq_false_iff_ne.2 h21
                      have q13 : (y.op == 13) = false := beq_eq_false_iff_ne.2 h13
                      have q14 : (y.op == 14) = false := beq_eq_false_iff_ne.2 h14
                      have q35 : (y.op == 35) = false := beq_eq_false_iff_ne.2 h35
                      have HNX := Lib.hid (show nxI m y (j : Int) = asc (delI (fun n => decide ((m : Int) ≤ n)) [(j : Int) + 1]) from by unfold nxI nxL; simp [*])
                      clear HL
                      go_wp2_with fail
                      have HA1 := Lib.hid (show Ext w1 (w1.alloc (.cells #[.int .i64 y.op, .int .i64 y.a, .int .i64 y.b, .int .i64 y.c, .slice aa y.args.length ac] 56)) from ext_alloc (Below.refl _ _) _)
                      have HA2 := Lib.hid (show Ext w1 ((w1.alloc (.cells #[.int .i64 y.op, .int .i64 y.a, .int .i64 y.b, .int .i64 y.c, .slice aa y.args.length ac] 56)).alloc (.cells #[.int .i64 ((j : Int) + 1)] 3)) from ext_alloc HA1.out _)
                      have HRW := Lib.hid (rowI_1 (w1.alloc (.cells #[.int .i64 y.op, .int .i64 y.a, .int .i64 y.b, .int .i64 y.c, .slice aa y.args.length ac] 56)) w1.heap.size (w1.heap.size + 1) ((j : Int) + 1) (by simp) HA1.out.size)
                      refine (DelN_any (.pointer (some ⟨w.heap.size, 0, none⟩)) (.pointer (some ⟨w.heap.size + 1, 0, none⟩)) (fun n => decide ((m : Int) ≤ n)) [(j : Int) + 1] w1.heap.size _ _ (by simp) HRW.out HA2.out.size (fun n W hW => KD.out n W (Below.trans HA2.out hW))).mono ?_
                      rintro _ w3 ⟨v3', rfl, hR, hE⟩
                      have HE3 := Lib.hid (Below.trans HA2.out hE)
                      obtain ⟨a3, c3, rfl, hI, _, _⟩ := hR.ints
                      have K4 := Lib.hid (ascending_any _ a3 c3 w3 (Nat.le_trans (delI_len _ _) (by simp)) hI)
                      clear hR hE hI
                      go_wp2_with fail
                      refine K4.out.mono ?_
                      rintro _ w4 ⟨v4', rfl, hR, hE⟩
                      have HR4 := Lib.hid hR
                      have HE4 := Lib.hid (Ext.trans HX1.out (Below.trans HE3.out (hE.mono HE3.out.size)))
                      clear hR hE
                      go_wp2
                      go_ret
                      exact ⟨_, rfl, by rw [HLX.out, HNX.out]; exact (show RowI w.heap.size _ _ _ from RowI.lower HR4.out (by have := HE3.out.size; omega)), HE4.out⟩

end Go.Proofs.YtfkjokbhnblndaaDoor

namespace Go.Proofs.YtfkjokbhnblndaaDoor
open Go.RowKit
set_option linter.unusedVariables false
variable {ops : Array Oper} {rest : List Oper} {o : Oper} {a : Act} {Q : Exit → Act → World → Prop}
theorem wp_appJ (hgd : o.guard = none) (s x : Operand) (ho : o.op = .call { callee := .builtin .append, args := #[s, x], argTypes := #[54, 54] })
    (base : Nat) (v : Value) (l : List Int) (hs : a.eval s = v) (W : World) (h : RowI base v l W) (n : Int) (hx : a.eval x = .slice (some ⟨W.heap.size, 0, none⟩) 1 1) (hlen : l.length ≤ 10000000000) (hbase : base ≤ W.heap.size)
    (hK : ∀ v' w', RowI base v' (l ++ [n]) w' → Below base W w' → (∀ j, j < W.heap.size → v.ownBlock ≠ some j → w'.heap[j]? = W.heap[j]?) → wpList Tryd.prog ops Q rest (a.put o.dst v') w') : wpList Tryd.prog ops Q (o :: rest) a (W.alloc (.cells #[.int .i64 n] 3)) := by
  obtain ⟨i0, hi, hz0, hz1, hz2⟩ := info_parts infoI'
  refine wpList_append_own _ hgd s x 54 ho base 3 i0 (.int .i64 0) 1 8 Tryd.underlying54 hi hz0 hz1 hz2 rfl (by decide) v l.length (l.map (Value.int .i64)) hs (World.ownsRow.alloc h _) ⟨W.heap.size, 0, none⟩ 1 1 [.int .i64 n] hx rfl (cell_one_new _ _ _) (by simp [Value.oneCell']) (by unfold maxLen; omega) (by omega) (by simp; omega) ?_
  intro v' w' hown hg _
  refine hK v' w' ?_ ?_ (fun j hj hne => (hg.block j (by simp; omega) (fun e => hne e.symm)).trans ((Below.heap_alloc _ _ _ hj)))
  · unfold RowI
    simpa using hown
  · exact ((Below.refl base W).alloc hbase _).grown hg (by simp; omega) (fun k e => (World.ownsRow.lt h k e).1)

end Go.Proofs.YtfkjokbhnblndaaDoor

namespace Go.Proofs.YtfkjokbhnblndaaDoor
open Go.RowKit
set_option linter.unusedVariables false
set_option linter.unusedSimpArgs false

section
variable {ops : Array Oper} {rest : List Oper} {o : Oper} {a : Act} {Q : Exit → Act → World → Prop}
/-- append of a row of integers that lies anywhere -/
theorem wp_appF (hgd : o.guard = none) (s x : Operand) (ho : o.op = .call { callee := .builtin .append, args := #[s, x], argTypes := #[54, 54] })
    (base : Nat) (v : Value) (l : List Int) (hs : a.eval s = v) (W : World) (h : RowI base v l W) (ml : List Int) (y : Option Addr) (c : Nat) (hx : a.eval x = .slice y ml.length c) (hI : IntsAt W y ml) (hlen : l.length ≤ 1000000000) (hm : ml.length ≤ 1000000000) (hbase : base ≤ W.heap.size)
    (hK : ∀ v' w', RowI base v' (l ++ ml) w' → Below base W w' → W.heap.size ≤ w'.heap.size → (∀ j, j < W.heap.size → v.ownBlock ≠ some j → w'.heap[j]? = W.heap[j]?) → (v'.ownBlock = v.ownBlock ∨ v'.ownBlock = some W.heap.size) → wpList Tryd.prog ops Q rest (a.put o.dst v') w') : wpList Tryd.prog ops Q (o :: rest) a W := by
  obtain ⟨i0, hi, hz0, hz1, hz2⟩ := info_parts infoI'
  cases y with
  | none =>
    obtain rfl : ml = [] := by
      cases ml with
      | nil => rfl
      | cons x ml => obtain ⟨b, off, e, _⟩ := hI 0 (by simp); cases e
    have hrun : (Builtin.append_ #[54, 54] o.type #[v, .slice none 0 c]).run Tryd.prog W = .ok v W := by
      rcases h.2 with ⟨rfl, h0⟩ | ⟨g, cap, cur, rfl, _, _, hn, _⟩
      · simp [Builtin.append_, run_underlying Tryd.underlying54, sizeOf, typeInfo, hi, Builtin.lenOf, Builtin.firstCells, storeCells, Result.andThen]
      · simp [Builtin.append_, run_underlying Tryd.underlying54, sizeOf, typeInfo, hi, Builtin.lenOf, Builtin.firstCells, storeCells, Result.andThen, hn]
    refine wpList_plain hgd fun K hK' => ?_
    unfold Oper.wp execOp
    simp [ho, resolve, invoke, builtin, hs, hx, hrun, Result.andThen]
    exact hK' _ _ (hK v W (by simpa using h) (Below.refl _ _) (Nat.le_refl _) (fun _ _ _ => rfl) (.inl rfl))
  | some ad =>
    refine wpList_append_own_at _ hgd s x 54 ho base 3 i0 (.int .i64 0) 1 8 Tryd.underlying54 hi hz0 hz1 hz2 rfl (by decide) v l.length (l.map (Value.int .i64)) hs h ad ml.length c (ml.map (Value.int .i64)) hx (by simp) (fun j u hu => ?_) (by simp [Value.oneCell']) (by unfold maxLen; omega) (by omega) hbase ?_
    · have hj : j < ml.length := by have := (List.getElem?_eq_some_iff.1 hu).1; simpa using this
      obtain ⟨b, off, e, hc⟩ := hI j hj
      cases e
      rw [show (⟨b, off, none⟩ : Addr).add j = ⟨b, off + j, none⟩ by unfold Addr.add; split <;> simp_all, hc]
      simp [hj] at hu
      rw [hu]
    · intro v' w' hown hg _ hat
      refine hK v' w' ?_ ((Below.refl base W).grown hg hbase (fun k e => (World.ownsRow.lt h k e).1)) hg.size (fun j hj hne => hg.block j hj (fun e => hne e.symm)) hat
      unfold RowI
      simpa using hown
/-- append of one number, made for it -/
theorem wp_appK (hgd : o.guard = none) (s x : Operand) (ho : o.op = .call { callee := .builtin .append, args := #[s, x], argTypes := #[54, 54] })
    (base : Nat) (v : Value) (l : List Int) (hs : a.eval s = v) (W : World) (h : RowI base v l W) (n : Int) (hx : a.eval x = .slice (some ⟨W.heap.size, 0, none⟩) 1 1) (hlen : l.length ≤ 1000000000) (hbase : base ≤ W.heap.size)
    (hK : ∀ v' w', RowI base v' (l ++ [n]) w' → Below base W w' → W.heap.size ≤ w'.heap.size → (∀ j, j < W.heap.size → v.ownBlock ≠ some j → w'.heap[j]? = W.heap[j]?) → (v'.ownBlock = v.ownBlock ∨ ∃ g, v'.ownBlock = some g ∧ W.heap.size ≤ g) → wpList Tryd.prog ops Q rest (a.put o.dst v') w') : wpList Tryd.prog ops Q (o :: rest) a (W.alloc (.cells #[.int .i64 n] 3)) := by
  refine wp_appF hgd s x ho base v l hs _ (h.ext (Below.refl _ W |>.alloc (Nat.le_refl _) _)) [n] _ 1 hx (ints_alloc W [n] _) hlen (by simp) (by simp; omega) ?_
  intro v' w' h1 h2 h3 h4 h5
  refine hK v' w' h1 (Below.trans ((Below.refl base W).alloc hbase _) h2) (by simp at h3; omega) (fun j hj hne => (h4 j (by simp; omega) hne).trans (Below.heap_alloc _ _ _ hj)) ?_
  rcases h5 with e | e
  · exact .inl e
  · exact .inr ⟨_, e, by simp⟩
end

/-- two rows, the first in a box -/
structure RG (base b0 : Nat) (vi vo : Value) (li lo : List Int) (W : World) : Prop where
  ri : RowI base vi li W
  ro : RowI base vo lo W
  off : ∀ g, vi.ownBlock = some g → vo.ownBlock ≠ some g
  box : Boxed W b0 54 vi
theorem RowI.kept {base : Nat} {v : Value} {l : List Int} {W w' : World} (h : RowI base v l W) (hk : ∀ g, v.ownBlock = some g → w'.heap[g]? = W.heap[g]?) : RowI base v l w' := by
  refine ⟨h.1, ?_⟩
  rcases h.2 with ⟨e, e2⟩ | ⟨g, cap, cur, e, hg, h3, h4⟩
  · exact .inl ⟨e, e2⟩
  · exact .inr ⟨g, cap, cur, e, hg, (hk g (by rw [e]; rfl)).trans h3, h4⟩
theorem RowI.blk {base : Nat} {v : Value} {l : List Int} {W : World} (h : RowI base v l W) {g : Nat} (e : v.ownBlock = some g) : g < W.heap.size := (World.ownsRow.lt h g e).2
theorem RG.ext {base b0 : Nat} {vi vo : Value} {li lo : List Int} {W W' : World} (h : RG base b0 vi vo li lo W) (hE : Ext W W') : RG base b0 vi vo li lo W' :=
  ⟨h.ri.ext hE, h.ro.ext hE, h.off, (hE.below.block _ h.box.lt).trans h.box⟩
theorem RG.boxKept {base b0 : Nat} {vi vo : Value} {li lo : List Int} {W w' : World} (h : RG base b0 vi vo li lo W) (hk : ∀ j, j < W.heap.size → vi.ownBlock ≠ some j → w'.heap[j]? = W.heap[j]?) : Boxed w' b0 54 vi :=
  (hk b0 h.box.lt (fun e => (h.box.not_row (by decide) h.ri) e.symm)).trans h.box
theorem RG.appI {base b0 : Nat} {vi vo v' : Value} {li lo l' : List Int} {W w' : World} (h : RG base b0 vi vo li lo W) (hr : RowI base v' l' w') (hk : ∀ j, j < W.heap.size → vi.ownBlock ≠ some j → w'.heap[j]? = W.heap[j]?)
    (hat : v'.ownBlock = vi.ownBlock ∨ ∃ g, v'.ownBlock = some g ∧ W.heap.size ≤ g) : RG base b0 v' vo l' lo (w'.setCell ⟨b0, 0, none⟩ v') := by
  have hB := h.boxKept hk
  have hne : ∀ {v l}, RowI base v l w' → ∀ g, v.ownBlock = some g → (w'.setCell ⟨b0, 0, none⟩ v').heap[g]? = w'.heap[g]? := fun {v l} hv g e =>
    Below.heap_setCell _ _ _ g (fun e2 => (hB.not_row (by decide) hv) (by rw [e]; cases e2; rfl))
  have hro : RowI base vo lo w' := h.ro.kept (fun g e => hk g (h.ro.blk e) (fun e2 => h.off g e2 e))
  refine ⟨hr.kept (hne hr), hro.kept (hne hro), fun g e => ?_, hB.set v'⟩
  rcases hat with e2 | ⟨g2, e2, h2⟩
  · exact h.off g (e2 ▸ e)
  · intro e3
    rw [e2] at e
    cases e
    have := h.ro.blk e3
    omega
theorem RG.appO {base b0 : Nat} {vi vo v' : Value} {li lo l' : List Int} {W w' : World} (h : RG base b0 vi vo li lo W) (hr : RowI base v' l' w') (hk : ∀ j, j < W.heap.size → vo.ownBlock ≠ some j → w'.heap[j]? = W.heap[j]?)
    (hat : v'.ownBlock = vo.ownBlock ∨ ∃ g, v'.ownBlock = some g ∧ W.heap.size ≤ g) : RG base b0 vi v' li l' w' := by
  have hB : Boxed w' b0 54 vi := (hk b0 h.box.lt (fun e => (h.box.not_row (by decide) h.ro) e.symm)).trans h.box
  refine ⟨h.ri.kept (fun g e => hk g (h.ri.blk e) (h.off g e)), hr, fun g e => ?_, hB⟩
  rcases hat with e2 | ⟨g2, e2, h2⟩
  · rw [e2]; exact h.off g e
  · intro e3
    rw [e2] at e3
    cases e3
    have := h.ri.blk e
    omega
theorem RowI.lw {base base' : Nat} {v : Value} {l : List Int} {w : World} (h : RowI base v l w) (hb : base' ≤ base) : RowI base' v l w := by
  refine ⟨h.1, ?_⟩
  rcases h.2 with ⟨e, e2⟩ | ⟨g, cap, cur, e, hg, h3⟩
  · exact .inl ⟨e, e2⟩
  · exact .inr ⟨g, cap, cur, e, Nat.le_trans hb hg, h3⟩
/-- all but one block stay -/
theorem grB_refl (w : World) (b : Nat) : w.grownBy w (some b) := ⟨rfl, rfl, rfl, Nat.le_refl _, fun _ _ _ => rfl⟩
theorem grB_below {A B C : World} {b : Nat} (h : A.grownBy B (some b)) (hB : Below A.heap.size B C) : A.grownBy C (some b) :=
  ⟨hB.os.trans h.os, hB.tape.trans h.tape, hB.output.trans h.output, Nat.le_trans h.size hB.size, fun j hj hne => (hB.block j hj).trans (h.block j hj hne)⟩
theorem grB_set {A B : World} {b : Nat} (h : A.grownBy B (some b)) (v : Value) : A.grownBy (B.setCell ⟨b, 0, none⟩ v) (some b) := by
  have g := grownBy_setCell' B b v
  exact ⟨g.os.trans h.os, g.tape.trans h.tape, g.output.trans h.output, Nat.le_trans h.size g.size, fun j hj hne => (g.block j (Nat.lt_of_lt_of_le hj h.size) hne).trans (h.block j hj hne)⟩
theorem grB_cell {A B : World} {b k i : Nat} {v : Value} (h : A.grownBy B (some b)) (hne : k ≠ b) (hc : A.cell? ⟨k, i, none⟩ = some v) : B.cell? ⟨k, i, none⟩ = some v := by
  have hlt := cell_lt hc
  have hb := h.block k hlt (fun e => hne (by cases e; rfl))
  unfold World.cell? at hc ⊢
  dsimp only at hc ⊢
  rw [hb]; exact hc
theorem grB_ext {w A B : World} {b : Nat} (hE : Ext w A) (h : A.grownBy B (some b)) (hb : w.heap.size ≤ b) : Ext w B :=
  ⟨h.os.trans hE.os, h.tape.trans hE.tape, h.output.trans hE.output, Nat.le_trans hE.size h.size, fun j hj => (h.block j (Nat.lt_of_lt_of_le hj hE.size) (fun e => by cases e; omega)).trans (hE.below.block j hj)⟩
end Go.Proofs.YtfkjokbhnblndaaDoor

namespace Go.Proofs.YtfkjokbhnblndaaDoor
open Go.RowKit
set_option linter.unusedVariables false
set_option linter.unusedSimpArgs false

/-- two slices of integers of the call's own come back -/
def RetRR (w : World) (l1 l2 : List Int) (e : Ending) (w' : World) : Prop := ∃ v1 v2, e = .returned (.tuple #[v1, v2]) ∧ RowI w.heap.size v1 l1 w' ∧ RowI w.heap.size v2 l2 w' ∧ Ext w w'
def rdO (o : Opd) (n : Int) : List Int := if o.what = 3 ∨ o.what = 5 then [n] else []
def wrO (o : Opd) (n : Int) : List Int := if o.what = 4 then [n] else []
def inS (s : Sh) (x : Ins) : Nat → List Int
  | 0 => []
  | 1 => rdO s.a x.a
  | 2 => rdO s.a x.a ++ rdO s.b x.b
  | _ => rdO s.a x.a ++ rdO s.b x.b ++ rdO s.c x.c
def outS (s : Sh) (x : Ins) : Nat → List Int
  | 0 => []
  | 1 => wrO s.a x.a
  | 2 => wrO s.a x.a ++ wrO s.b x.b
  | _ => wrO s.a x.a ++ wrO s.b x.b ++ wrO s.c x.c
def inL (s : Sh) (x : Ins) : List Int := inS s x 3 ++ (if s.args = 1 ∨ s.args = 2 then x.args else [])
def outL (s : Sh) (x : Ins) : List Int := outS s x 3
theorem RowI.sl {base : Nat} {v : Value} {l : List Int} {w : World} (h : RowI base v l w) : ∃ a m c, v = .slice a m c := by
  obtain ⟨x, c, e, _⟩ := h.ints
  exact ⟨_, _, _, e⟩
theorem asc_row {base : Nat} {v : Value} {l : List Int} {w : World} (h : RowI base v l w) (hl : l.length ≤ 1000000000) : Calls Tryd.prog 60 #[v] w fun e w' => ∃ v', e = .returned v' ∧ RowI w.heap.size v' (asc l) w' ∧ Ext w w' := by
  obtain ⟨x, c, rfl, hI, _⟩ := h.ints
  exact ascending_any l x c w hl hI
theorem rdO_len (o : Opd) (n : Int) : (rdO o n).length ≤ 1 := by unfold rdO; split <;> simp
theorem wrO_len (o : Opd) (n : Int) : (wrO o n).length ≤ 1 := by unfold wrO; split <;> simp
theorem inS_len (s : Sh) (x : Ins) (k : Nat) : (inS s x k).length ≤ 3 := by
  have h1 := rdO_len s.a x.a
  have h2 := rdO_len s.b x.b
  have h3 := rdO_len s.c x.c
  match k with
  | 0 => simp [inS]
  | 1 => simp only [inS]; omega
  | 2 => simp only [inS, List.length_append]; omega
  | k + 3 => simp only [inS, List.length_append]; omega
theorem outS_len (s : Sh) (x : Ins) (k : Nat) : (outS s x k).length ≤ 3 := by
  have h1 := wrO_len s.a x.a
  have h2 := wrO_len s.b x.b
  have h3 := wrO_len s.c x.c
  match k with
  | 0 => simp [outS]
  | 1 => simp only [outS]; omega
  | 2 => simp only [outS, List.length_append]; omega
  | k + 3 => simp only [outS, List.length_append]; omega

set_option maxRecDepth 100000 in
set_option maxHeartbeats 4000000 in
theorem Registers_gen (x : Ins) (s : Sh) (y : Option Addr) (yc : Nat) (w : World) (hs : shp x.op = some s) (h3 : s.args ≠ 3) (hI : IntsAt w y x.args) (hl : x.args.length ≤ 1000) :
    Calls Tryd.prog 27 #[IV x y yc] w (RetRR w (asc (inL s x)) (asc (outL s x))) := by
  obtain ⟨op, xa, xb, xc, args⟩ := x
  dsimp only at hs hI hl
  have KS := Lib.hid (fun W => shapeOf_some op s hs W)
  have HIA := Lib.hid (fun W (hW : Ext w W) => hI.below hW)
  have HLI := Lib.hid (inS_len s ⟨op, xa, xb, xc, args⟩)
  have HLO := Lib.hid (outS_len s ⟨op, xa, xb, xc, args⟩)
  clear hs hI
  obtain ⟨⟨wa, ka⟩, ⟨wb, kb⟩, ⟨wc, kc⟩, g⟩ := s
  dsimp only [SV, IV] at KS h3 ⊢
  obtain ⟨wk, hwk⟩ : ∃ W, W = (w.alloc (.cells #[.int .i64 op, .int .i64 xa, .int .i64 xb, .int .i64 xc, .slice y args.length yc] 56)) := ⟨_, rfl⟩
  have BX := Lib.hid (show ∀ W, Ext wk W → (W.cell? ⟨w.heap.size, 0, none⟩ = some (.int .i64 op) ∧ W.cell? ⟨w.heap.size, 1, none⟩ = some (.int .i64 xa) ∧ W.cell? ⟨w.heap.size, 2, none⟩ = some (.int .i64 xb) ∧ W.cell? ⟨w.heap.size, 3, none⟩ = some (.int .i64 xc) ∧ W.cell? ⟨w.heap.size, 4, none⟩ = some (.slice y args.length yc)) from fun W hW => by
    subst hwk
    have h0 := alloc_here w (.cells #[.int .i64 op, .int .i64 xa, .int .i64 xb, .int .i64 xc, .slice y args.length yc] 56)
    have k0 := (hW.below.block _ (lt_of_block h0)).trans h0
    exact ⟨cell_of k0 rfl, cell_of k0 rfl, cell_of k0 rfl, cell_of k0 rfl, cell_of k0 rfl⟩)
  have HWZ := Lib.hid (show wk.heap.size = w.heap.size + 1 by rw [hwk]; simp)
  have HW := Lib.hid (show Ext w wk by rw [hwk]; exact (ext_alloc (Below.refl _ _) _))
  have HE0 := Lib.hid (show Ext wk wk from Below.refl _ _)
  go_enter Tryd.func27, Tryd.ntmps27
  go_wp2_with fail
  rw [← hwk]
  clear hwk
  refine (KS.out _).mono ?_
  intro w1 hE
  have HE1 := Lib.hid (Ext.trans HE0.out hE)
  have HX1 := Lib.hid (Ext.trans HW.out HE1.out)
  clear hE
  obtain ⟨d0_0, d0_1, d0_2, d0_3, d0_4⟩ := BX.out _ HE1.out
  go_wp2_with fail
  clear d0_0 d0_1 d0_2 d0_3 d0_4
  obtain ⟨w2, hw2⟩ : ∃ W, W = (((w1.alloc (.cells #[.int .i64 wa, .int .i64 ka, .int .i64 wb, .int .i64 kb, .int .i64 wc, .int .i64 kc, .int .i64 g] 90)).alloc (.cells #[.slice none 0 0] 54)).alloc (.cells #[.int .i64 wa, .int .i64 ka, .int .i64 wb, .int .i64 kb, .int .i64 wc, .int .i64 kc] 88)) := ⟨_, rfl⟩
  rw [← hw2]
  have HSH := Lib.hid (show w2.heap[w1.heap.size]? = some (.cells #[.int .i64 wa, .int .i64 ka, .int .i64 wb, .int .i64 kb, .int .i64 wc, .int .i64 kc, .int .i64 g] 90 (0, 0)) from by
    rw [hw2]; exact (Below.heap_alloc _ _ _ (by simp; omega)).trans ((Below.heap_alloc _ _ _ (by simp)).trans (alloc_here _ _)))
  have hbx : Boxed w2 (w1.heap.size + 1) 54 (.slice none 0 0) := by
    have h := alloc_here (w1.alloc (.cells #[.int .i64 wa, .int .i64 ka, .int .i64 wb, .int .i64 kb, .int .i64 wc, .int .i64 kc, .int .i64 g] 90)) (.cells #[.slice none 0 0] 54)
    simp only [World.size_alloc] at h
    rw [hw2]; exact (Below.heap_alloc _ _ _ (by simp)).trans h
  have HOPS := Lib.hid (show w2.heap[w1.heap.size + 1 + 1]? = some (.cells #[.int .i64 wa, .int .i64 ka, .int .i64 wb, .int .i64 kb, .int .i64 wc, .int .i64 kc] 88 (0, 0)) from by
    have h := alloc_here ((w1.alloc (.cells #[.int .i64 wa, .int .i64 ka, .int .i64 wb, .int .i64 kb, .int .i64 wc, .int .i64 kc, .int .i64 g] 90)).alloc (.cells #[.slice none 0 0] 54)) (.cells #[.int .i64 wa, .int .i64 ka, .int .i64 wb, .int .i64 kb, .int .i64 wc, .int .i64 kc] 88)
    simp only [World.size_alloc] at h
    rw [hw2]; exact h)
  have HE2 := Lib.hid (show Ext wk w2 from by rw [hw2]; exact ext_alloc (ext_alloc (ext_alloc HE1.out _) _) _)
  have HX2 := Lib.hid (Ext.trans HW.out HE2.out)
  have HSZ := Lib.hid (show w2.heap.size = w1.heap.size + 3 from by rw [hw2]; simp)
  have hwk := HWZ.out
  have hw1 := HE1.out.size
  clear hw2
  obtain ⟨IS, hIS⟩ : ∃ f, inS (⟨⟨wa, ka⟩, ⟨wb, kb⟩, ⟨wc, kc⟩, g⟩ : Sh) (⟨op, xa, xb, xc, args⟩ : Ins) = f := ⟨_, rfl⟩
  obtain ⟨OS, hOS⟩ : ∃ f, outS (⟨⟨wa, ka⟩, ⟨wb, kb⟩, ⟨wc, kc⟩, g⟩ : Sh) (⟨op, xa, xb, xc, args⟩ : Ins) = f := ⟨_, rfl⟩
  have HI0 := Lib.hid (show IS 0 = [] from by rw [← hIS]; rfl)
  have HO0 := Lib.hid (show OS 0 = [] from by rw [← hOS]; rfl)
  have HR1 := Lib.hid (show inL (⟨⟨wa, ka⟩, ⟨wb, kb⟩, ⟨wc, kc⟩, g⟩ : Sh) (⟨op, xa, xb, xc, args⟩ : Ins) = IS 3 ++ (if g = 1 ∨ g = 2 then args else []) from by rw [← hIS]; rfl)
  have HR2 := Lib.hid (show outL (⟨⟨wa, ka⟩, ⟨wb, kb⟩, ⟨wc, kc⟩, g⟩ : Sh) (⟨op, xa, xb, xc, args⟩ : Ins) = OS 3 from by rw [← hOS]; rfl)
  have HI1 := Lib.hid (show IS 1 = IS 0 ++ (if wa = 3 ∨ wa = 5 then [xa] else []) from by rw [← hIS]; rfl)
  have HO1 := Lib.hid (show OS 1 = OS 0 ++ (if wa = 4 then [xa] else []) from by rw [← hOS]; rfl)
  have HI2 := Lib.hid (show IS 2 = IS 1 ++ (if wb = 3 ∨ wb = 5 then [xb] else []) from by rw [← hIS]; rfl)
  have HO2 := Lib.hid (show OS 2 = OS 1 ++ (if wb = 4 then [xb] else []) from by rw [← hOS]; rfl)
  have HI3 := Lib.hid (show IS 3 = IS 2 ++ (if wc = 3 ∨ wc = 5 then [xc] else []) from by rw [← hIS]; rfl)
  have HO3 := Lib.hid (show OS 3 = OS 2 ++ (if wc = 4 then [xc] else []) from by rw [← hOS]; rfl)
  rw [hIS] at HLI
  rw [hOS] at HLO
  clear hIS hOS
  generalize inL (⟨⟨wa, ka⟩, ⟨wb, kb⟩, ⟨wc, kc⟩, g⟩ : Sh) (⟨op, xa, xb, xc, args⟩ : Ins) = RL1 at *
  generalize outL (⟨⟨wa, ka⟩, ⟨wb, kb⟩, ⟨wc, kc⟩, g⟩ : Sh) (⟨op, xa, xb, xc, args⟩ : Ins) = RL2 at *
  have HRG := Lib.hid (show RG w2.heap.size (w1.heap.size + 1) (.slice none 0 0) (.slice none 0 0) (IS 0) (OS 0) w2 from by
    rw [HI0.out, HO0.out]
    exact ⟨RowI.nil _ _, RowI.nil _ _, fun g e => by simp [Value.ownBlock] at e, hbx⟩)
  clear hbx
  have HBX := Lib.hid (fun W (hW : w2.grownBy W (some (w1.heap.size + 1))) => show W.cell? ⟨w.heap.size, 0, none⟩ = some (.int .i64 op) ∧ W.cell? ⟨w.heap.size, 1, none⟩ = some (.int .i64 xa) ∧ W.cell? ⟨w.heap.size, 2, none⟩ = some (.int .i64 xb) ∧ W.cell? ⟨w.heap.size, 3, none⟩ = some (.int .i64 xc) ∧ W.cell? ⟨w.heap.size, 4, none⟩ = some (.slice y args.length yc) from by
    obtain ⟨d0_0, d0_1, d0_2, d0_3, d0_4⟩ := BX.out w2 HE2.out
    exact ⟨grB_cell hW (by omega) d0_0, grB_cell hW (by omega) d0_1, grB_cell hW (by omega) d0_2, grB_cell hW (by omega) d0_3, grB_cell hW (by omega) d0_4⟩)
  go_loopw [7, 28] (fun vo i wr => ∃ (k : Nat) (vi : Value), k ≤ 3 ∧ i = .int .i64 (k : Int) ∧ RG w2.heap.size (w1.heap.size + 1) vi vo (IS k) (OS k) wr ∧ w2.grownBy wr (some (w1.heap.size + 1))) (fun _ i _ => 3 - (intOf i).toNat)
  case atStart => exact ⟨0, _, by omega, rfl, HRG.out, grB_refl _ _⟩
  case round =>
    obtain ⟨k, vi, hk, rfl, hR, hE⟩ := hrel
    have HR := Lib.hid hR
    have HE := Lib.hid hE
    have hbz : w2.heap.size ≤ wr.heap.size := hE.size
    clear hR hE
    obtain ⟨d0_0, d0_1, d0_2, d0_3, d0_4⟩ := HBX.out wr HE.out
    have hq := (HE.out.block _ (lt_of_block HOPS.out) (fun e => by injection e with e; omega)).trans HOPS.out
    have q0 := cell_of hq (i := 0) rfl
    have q1 := cell_of hq (i := 1) rfl
    have q2 := cell_of hq (i := 2) rfl
    have q3 := cell_of hq (i := 3) rfl
    have q4 := cell_of hq (i := 4) rfl
    have q5 := cell_of hq (i := 5) rfl
    have hql := lt_of_block hq
    clear hq
    have hlni := HLI.out k
    have hx0 : w.heap.size < wr.heap.size := by have := HSZ.out; omega
    have hx1 : w.heap.size < wr.heap.size + 1 := by omega
    have hx2 : w.heap.size < wr.heap.size + 1 + 1 := by omega
    have hlno := HLO.out k
    by_cases hlt : k < 3
    case pos =>
      have hcase : k = 0 ∨ k = 1 ∨ k = 2 := by omega
      rcases hcase with rfl | rfl | rfl
      ·
        clear hlt hk
        go_upto_region 9 with fail
        have HEA := Lib.hid (show Ext wr ((wr.alloc (.cells #[.int .i64 wa, .int .i64 ka] 88)).alloc (.cells #[.int .i64 xa, .int .i64 xb, .int .i64 xc] 3)) from ext_alloc (ext_alloc (Below.refl _ _) _) _)
        have HTA := Lib.hid (show ((wr.alloc (.cells #[.int .i64 wa, .int .i64 ka] 88)).alloc (.cells #[.int .i64 xa, .int .i64 xb, .int .i64 xc] 3)).heap[wr.heap.size]? = some (.cells #[.int .i64 wa, .int .i64 ka] 88 (0, 0)) from (Below.heap_alloc _ _ _ (by simp)).trans (alloc_here _ _))
        generalize ((wr.alloc (.cells #[.int .i64 wa, .int .i64 ka] 88)).alloc (.cells #[.int .i64 xa, .int .i64 xb, .int .i64 xc] 3)) = wq at *
        have HRQ := Lib.hid (HR.out.ext HEA.out)
        have HGQ := Lib.hid (grB_below HE.out (HEA.out.mono hbz))
        have hbq : w2.heap.size ≤ wq.heap.size := Nat.le_trans hbz HEA.out.size
        have t0 := cell_of HTA.out (i := 0) rfl
        have bx := HRQ.out.box.cell
        clear q0 q1 q2 q3 q4 q5 hql d0_0 d0_1 d0_2 d0_3 d0_4
        by_cases e3 : wa = 3
        case pos =>
          subst e3
          have HP := Lib.hid (show (3 : Int) = 3 ∨ (3 : Int) = 5 from .inl rfl)
          have HQ := Lib.hid (show ¬ (3 : Int) = 4 from by decide)
          have HSI := Lib.hid (show IS 1 = IS 0 ++ [xa] from by rw [HI1.out, if_pos HP.out])
          have HSO := Lib.hid (show OS 1 = OS 0 from by rw [HO1.out, if_neg HQ.out, List.append_nil])
          have HLN := Lib.hid (show (IS 0).length ≤ 1000000000 from by omega)
          go_wp2_with (at_builtin; go_loud (refine wp_appK rfl _ _ (by rfl) w2.heap.size vi _ (by rfl) _ HRQ.out.ri xa (by rfl) HLN.out hbq ?_); intro v' w' hr hB hz hk' hat; have HV := Lib.hid (HRQ.out.appI hr hk' hat); have HB := Lib.hid (grB_set (grB_below HGQ.out hB) v'); have hbc := (HRQ.out.boxKept hk').cell; have hbf := (HRQ.out.boxKept hk').frozen; obtain ⟨a', m', c', hsl⟩ := hr.sl; subst hsl; clear hr hB hz hk' hat bx t0)
          go_roundw
          case rel => exact ⟨1, _, by omega, by go_num, by rw [HSI.out, HSO.out]; exact HV.out, HB.out⟩
          case measure => simp [intOf]
        case neg =>
          by_cases e5 : wa = 5
          case pos =>
            subst e5
            have HP := Lib.hid (show (5 : Int) = 3 ∨ (5 : Int) = 5 from .inr rfl)
            have HQ := Lib.hid (show ¬ (5 : Int) = 4 from by decide)
            have HSI := Lib.hid (show IS 1 = IS 0 ++ [xa] from by rw [HI1.out, if_pos HP.out])
            have HSO := Lib.hid (show OS 1 = OS 0 from by rw [HO1.out, if_neg HQ.out, List.append_nil])
            have HLN := Lib.hid (show (IS 0).length ≤ 1000000000 from by omega)
            go_wp2_with (at_builtin; go_loud (refine wp_appK rfl _ _ (by rfl) w2.heap.size vi _ (by rfl) _ HRQ.out.ri xa (by rfl) HLN.out hbq ?_); intro v' w' hr hB hz hk' hat; have HV := Lib.hid (HRQ.out.appI hr hk' hat); have HB := Lib.hid (grB_set (grB_below HGQ.out hB) v'); have hbc := (HRQ.out.boxKept hk').cell; have hbf := (HRQ.out.boxKept hk').frozen; obtain ⟨a', m', c', hsl⟩ := hr.sl; subst hsl; clear hr hB hz hk' hat bx t0)
            go_roundw
            case rel => exact ⟨1, _, by omega, by go_num, by rw [HSI.out, HSO.out]; exact HV.out, HB.out⟩
            case measure => simp [intOf]
          case neg =>
            by_cases e4 : wa = 4
            case pos =>
              subst e4
              have HP := Lib.hid (show (4 : Int) = 4 from rfl)
              have HQ := Lib.hid (show ¬ ((4 : Int) = 3 ∨ (4 : Int) = 5) from by decide)
              have HSI := Lib.hid (show IS 1 = IS 0 from by rw [HI1.out, if_neg HQ.out, List.append_nil])
              have HSO := Lib.hid (show OS 1 = OS 0 ++ [xa] from by rw [HO1.out, if_pos HP.out])
              have HLN := Lib.hid (show (OS 0).length ≤ 1000000000 from by omega)
              go_wp2_with (at_builtin; go_loud (refine wp_appK rfl _ _ (by rfl) w2.heap.size _ _ (by rfl) _ HRQ.out.ro xa (by rfl) HLN.out hbq ?_); intro v' w' hr hB hz hk' hat; have HV := Lib.hid (HRQ.out.appO hr hk' hat); have HB := Lib.hid (grB_below HGQ.out hB); clear hr hB hz hk' hat bx t0)
              go_roundw
              case rel => exact ⟨1, vi, by omega, by go_num, by rw [HSI.out, HSO.out]; exact HV.out, HB.out⟩
              case measure => simp [intOf]
            case neg =>
              have HP := Lib.hid e4
              have HQ := Lib.hid (show ¬ (wa = 3 ∨ wa = 5) from by omega)
              have z3 : (wa == 3) = false := beq_eq_false_iff_ne.2 e3
              have z4 : (wa == 4) = false := beq_eq_false_iff_ne.2 e4
              have z5 : (wa == 5) = false := beq_eq_false_iff_ne.2 e5
              have HSI := Lib.hid (show IS 1 = IS 0 from by rw [HI1.out, if_neg HQ.out, List.append_nil])
              have HSO := Lib.hid (show OS 1 = OS 0 from by rw [HO1.out, if_neg HP.out, List.append_nil])
              go_wp2
              go_roundw
              case rel => exact ⟨1, vi, by omega, by go_num, by rw [HSI.out, HSO.out]; exact HRQ.out, HGQ.out⟩
              case measure => simp [intOf]
      ·
        clear hlt hk
        go_upto_region 9 with fail
        have HEA := Lib.hid (show Ext wr ((wr.alloc (.cells #[.int .i64 wb, .int .i64 kb] 88)).alloc (.cells #[.int .i64 xa, .int .i64 xb, .int .i64 xc] 3)) from ext_alloc (ext_alloc (Below.refl _ _) _) _)
        have HTA := Lib.hid (show ((wr.alloc (.cells #[.int .i64 wb, .int .i64 kb] 88)).alloc (.cells #[.int .i64 xa, .int .i64 xb, .int .i64 xc] 3)).heap[wr.heap.size]? = some (.cells #[.int .i64 wb, .int .i64 kb] 88 (0, 0)) from (Below.heap_alloc _ _ _ (by simp)).trans (alloc_here _ _))
        generalize ((wr.alloc (.cells #[.int .i64 wb, .int .i64 kb] 88)).alloc (.cells #[.int .i64 xa, .int .i64 xb, .int .i64 xc] 3)) = wq at *
        have HRQ := Lib.hid (HR.out.ext HEA.out)
        have HGQ := Lib.hid (grB_below HE.out (HEA.out.mono hbz))
        have hbq : w2.heap.size ≤ wq.heap.size := Nat.le_trans hbz HEA.out.size
        have t0 := cell_of HTA.out (i := 0) rfl
        have bx := HRQ.out.box.cell
        clear q0 q1 q2 q3 q4 q5 hql d0_0 d0_1 d0_2 d0_3 d0_4
        by_cases e3 : wb = 3
        case pos =>
          subst e3
          have HP := Lib.hid (show (3 : Int) = 3 ∨ (3 : Int) = 5 from .inl rfl)
          have HQ := Lib.hid (show ¬ (3 : Int) = 4 from by decide)
          have HSI := Lib.hid (show IS 2 = IS 1 ++ [xb] from by rw [HI2.out, if_pos HP.out])
          have HSO := Lib.hid (show OS 2 = OS 1 from by rw [HO2.out, if_neg HQ.out, List.append_nil])
          have HLN := Lib.hid (show (IS 1).length ≤ 1000000000 from by omega)
          go_wp2_with (at_builtin; go_loud (refine wp_appK rfl _ _ (by rfl) w2.heap.size vi _ (by rfl) _ HRQ.out.ri xb (by rfl) HLN.out hbq ?_); intro v' w' hr hB hz hk' hat; have HV := Lib.hid (HRQ.out.appI hr hk' hat); have HB := Lib.hid (grB_set (grB_below HGQ.out hB) v'); have hbc := (HRQ.out.boxKept hk').cell; have hbf := (HRQ.out.boxKept hk').frozen; obtain ⟨a', m', c', hsl⟩ := hr.sl; subst hsl; clear hr hB hz hk' hat bx t0)
          go_roundw
          case rel => exact ⟨2, _, by omega, by go_num, by rw [HSI.out, HSO.out]; exact HV.out, HB.out⟩
          case measure => simp [intOf]
        case neg =>
          by_cases e5 : wb = 5
          case pos =>
            subst e5
            have HP := Lib.hid (show (5 : Int) = 3 ∨ (5 : Int) = 5 from .inr rfl)
            have HQ := Lib.hid (show ¬ (5 : Int) = 4 from by decide)
            have HSI := Lib.hid (show IS 2 = IS 1 ++ [xb] from by rw [HI2.out, if_pos HP.out])
            have HSO := Lib.hid (show OS 2 = OS 1 from by rw [HO2.out, if_neg HQ.out, List.append_nil])
            have HLN := Lib.hid (show (IS 1).length ≤ 1000000000 from by omega)
            go_wp2_with (at_builtin; go_loud (refine wp_appK rfl _ _ (by rfl) w2.heap.size vi _ (by rfl) _ HRQ.out.ri xb (by rfl) HLN.out hbq ?_); intro v' w' hr hB hz hk' hat; have HV := Lib.hid (HRQ.out.appI hr hk' hat); have HB := Lib.hid (grB_set (grB_below HGQ.out hB) v'); have hbc := (HRQ.out.boxKept hk').cell; have hbf := (HRQ.out.boxKept hk').frozen; obtain ⟨a', m', c', hsl⟩ := hr.sl; subst hsl; clear hr hB hz hk' hat bx t0)
            go_roundw
            case rel => exact ⟨2, _, by omega, by go_num, by rw [HSI.out, HSO.out]; exact HV.out, HB.out⟩
            case measure => simp [intOf]
          case neg =>
            by_cases e4 : wb = 4
            case pos =>
              subst e4
              have HP := Lib.hid (show (4 : Int) = 4 from rfl)
              have HQ := Lib.hid (show ¬ ((4 : Int) = 3 ∨ (4 : Int) = 5) from by decide)
              have HSI := Lib.hid (show IS 2 = IS 1 from by rw [HI2.out, if_neg HQ.out, List.append_nil])
              have HSO := Lib.hid (show OS 2 = OS 1 ++ [xb] from by rw [HO2.out, if_pos HP.out])
              have HLN := Lib.hid (show (OS 1).length ≤ 1000000000 from by omega)
              go_wp2_with (at_builtin; go_loud (refine wp_appK rfl _ _ (by rfl) w2.heap.size _ _ (by rfl) _ HRQ.out.ro xb (by rfl) HLN.out hbq ?_); intro v' w' hr hB hz hk' hat; have HV := Lib.hid (HRQ.out.appO hr hk' hat); have HB := Lib.hid (grB_below HGQ.out hB); clear hr hB hz hk' hat bx t0)
              go_roundw
              case rel => exact ⟨2, vi, by omega, by go_num, by rw [HSI.out, HSO.out]; exact HV.out, HB.out⟩
              case measure => simp [intOf]
            case neg =>
              have HP := Lib.hid e4
              have HQ := Lib.hid (show ¬ (wb = 3 ∨ wb = 5) from by omega)
              have z3 : (wb == 3) = false := beq_eq_false_iff_ne.2 e3
              have z4 : (wb == 4) = false := beq_eq_false_iff_ne.2 e4
              have z5 : (wb == 5) = false := beq_eq_false_iff_ne.2 e5
              have HSI := Lib.hid (show IS 2 = IS 1 from by rw [HI2.out, if_neg HQ.out, List.append_nil])
              have HSO := Lib.hid (show OS 2 = OS 1 from by rw [HO2.out, if_neg HP.out, List.append_nil])
              go_wp2
              go_roundw
              case rel => exact ⟨2, vi, by omega, by go_num, by rw [HSI.out, HSO.out]; exact HRQ.out, HGQ.out⟩
              case measure => simp [intOf]
      ·
        clear hlt hk
        go_upto_region 9 with fail
        have HEA := Lib.hid (show Ext wr ((wr.alloc (.cells #[.int .i64 wc, .int .i64 kc] 88)).alloc (.cells #[.int .i64 xa, .int .i64 xb, .int .i64 xc] 3)) from ext_alloc (ext_alloc (Below.refl _ _) _) _)
        have HTA := Lib.hid (show ((wr.alloc (.cells #[.int .i64 wc, .int .i64 kc] 88)).alloc (.cells #[.int .i64 xa, .int .i64 xb, .int .i64 xc] 3)).heap[wr.heap.size]? = some (.cells #[.int .i64 wc, .int .i64 kc] 88 (0, 0)) from (Below.heap_alloc _ _ _ (by simp)).trans (alloc_here _ _))
        generalize ((wr.alloc (.cells #[.int .i64 wc, .int .i64 kc] 88)).alloc (.cells #[.int .i64 xa, .int .i64 xb, .int .i64 xc] 3)) = wq at *
        have HRQ := Lib.hid (HR.out.ext HEA.out)
        have HGQ := Lib.hid (grB_below HE.out (HEA.out.mono hbz))
        have hbq : w2.heap.size ≤ wq.heap.size := Nat.le_trans hbz HEA.out.size
        have t0 := cell_of HTA.out (i := 0) rfl
        have bx := HRQ.out.box.cell
        clear q0 q1 q2 q3 q4 q5 hql d0_0 d0_1 d0_2 d0_3 d0_4
        by_cases e3 : wc = 3
        case pos =>
          subst e3
          have HP := Lib.hid (show (3 : Int) = 3 ∨ (3 : Int) = 5 from .inl rfl)
          have HQ := Lib.hid (show ¬ (3 : Int) = 4 from by decide)
          have HSI := Lib.hid (show IS 3 = IS 2 ++ [xc] from by rw [HI3.out, if_pos HP.out])
          have HSO := Lib.hid (show OS 3 = OS 2 from by rw [HO3.out, if_neg HQ.out, List.append_nil])
          have HLN := Lib.hid (show (IS 2).length ≤ 1000000000 from by omega)
          go_wp2_with (at_builtin; go_loud (refine wp_appK rfl _ _ (by rfl) w2.heap.size vi _ (by rfl) _ HRQ.out.ri xc (by rfl) HLN.out hbq ?_); intro v' w' hr hB hz hk' hat; have HV := Lib.hid (HRQ.out.appI hr hk' hat); have HB := Lib.hid (grB_set (grB_below HGQ.out hB) v'); have hbc := (HRQ.out.boxKept hk').cell; have hbf := (HRQ.out.boxKept hk').frozen; obtain ⟨a', m', c', hsl⟩ := hr.sl; subst hsl; clear hr hB hz hk' hat bx t0)
          go_roundw
          case rel => exact ⟨3, _, by omega, by go_num, by rw [HSI.out, HSO.out]; exact HV.out, HB.out⟩
          case measure => simp [intOf]
        case neg =>
          by_cases e5 : wc = 5
          case pos =>
            subst e5
            have HP := Lib.hid (show (5 : Int) = 3 ∨ (5 : Int) = 5 from .inr rfl)
            have HQ := Lib.hid (show ¬ (5 : Int) = 4 from by decide)
            have HSI := Lib.hid (show IS 3 = IS 2 ++ [xc] from by rw [HI3.out, if_pos HP.out])
            have HSO := Lib.hid (show OS 3 = OS 2 from by rw [HO3.out, if_neg HQ.out, List.append_nil])
            have HLN := Lib.hid (show (IS 2).length ≤ 1000000000 from by omega)
            go_wp2_with (at_builtin; go_loud (refine wp_appK rfl _ _ (by rfl) w2.heap.size vi _ (by rfl) _ HRQ.out.ri xc (by rfl) HLN.out hbq ?_); intro v' w' hr hB hz hk' hat; have HV := Lib.hid (HRQ.out.appI hr hk' hat); have HB := Lib.hid (grB_set (grB_below HGQ.out hB) v'); have hbc := (HRQ.out.boxKept hk').cell; have hbf := (HRQ.out.boxKept hk').frozen; obtain ⟨a', m', c', hsl⟩ := hr.sl; subst hsl; clear hr hB hz hk' hat bx t0)
            go_roundw
            case rel => exact ⟨3, _, by omega, by go_num, by rw [HSI.out, HSO.out]; exact HV.out, HB.out⟩
            case measure => simp [intOf]
          case neg =>
            by_cases e4 : wc = 4
            case pos =>
              subst e4
              have HP := Lib.hid (show (4 : Int) = 4 from rfl)
              have HQ := Lib.hid (show ¬ ((4 : Int) = 3 ∨ (4 : Int) = 5) from by decide)
              have HSI := Lib.hid (show IS 3 = IS 2 from by rw [HI3.out, if_neg HQ.out, List.append_nil])
              have HSO := Lib.hid (show OS 3 = OS 2 ++ [xc] from by rw [HO3.out, if_pos HP.out])
              have HLN := Lib.hid (show (OS 2).length ≤ 1000000000 from by omega)
              go_wp2_with (at_builtin; go_loud (refine wp_appK rfl _ _ (by rfl) w2.heap.size _ _ (by rfl) _ HRQ.out.ro xc (by rfl) HLN.out hbq ?_); intro v' w' hr hB hz hk' hat; have HV := Lib.hid (HRQ.out.appO hr hk' hat); have HB := Lib.hid (grB_below HGQ.out hB); clear hr hB hz hk' hat bx t0)
              go_roundw
              case rel => exact ⟨3, vi, by omega, by go_num, by rw [HSI.out, HSO.out]; exact HV.out, HB.out⟩
              case measure => simp [intOf]
            case neg =>
              have HP := Lib.hid e4
              have HQ := Lib.hid (show ¬ (wc = 3 ∨ wc = 5) from by omega)
              have z3 : (wc == 3) = false := beq_eq_false_iff_ne.2 e3
              have z4 : (wc == 4) = false := beq_eq_false_iff_ne.2 e4
              have z5 : (wc == 5) = false := beq_eq_false_iff_ne.2 e5
              have HSI := Lib.hid (show IS 3 = IS 2 from by rw [HI3.out, if_neg HQ.out, List.append_nil])
              have HSO := Lib.hid (show OS 3 = OS 2 from by rw [HO3.out, if_neg HP.out, List.append_nil])
              go_wp2
              go_roundw
              case rel => exact ⟨3, vi, by omega, by go_num, by rw [HSI.out, HSO.out]; exact HRQ.out, HGQ.out⟩
              case measure => simp [intOf]
    case neg =>
      obtain rfl : k = 3 := by omega
      clear hlt hk q0 q1 q2 q3 q4 q5 hql
      have hsh := (HE.out.block _ (lt_of_block HSH.out) (fun e => by injection e with e; omega)).trans HSH.out
      have s6 := cell_of hsh (i := 6) rfl
      have bx := HR.out.box.cell
      have HAR := Lib.hid (HIA.out wr (grB_ext HX2.out HE.out (by omega)))
      have HLN := Lib.hid (show (IS 3).length ≤ 1000000000 from by omega)
      have HLM := Lib.hid (show args.length ≤ 1000000000 from by omega)
      clear hsh
      by_cases hg : g = 1 ∨ g = 2
      case pos =>
        have HGG := Lib.hid hg
        rcases hg with rfl | rfl
        ·
          go_wp2_with (at_builtin; go_loud (refine wp_appF rfl _ _ (by rfl) w2.heap.size vi _ (by rfl) _ HR.out.ri args y yc (by rfl) HAR.out HLN.out HLM.out hbz ?_); intro v' w' hr hB hz hk' hat; have HV := Lib.hid (HR.out.appI hr hk' (hat.imp id (fun e => ⟨_, e, Nat.le_refl _⟩))); have HB := Lib.hid (grB_set (grB_below HE.out hB) v'); have hbc := (HR.out.boxKept hk').cell; have hbf := (HR.out.boxKept hk').frozen; obtain ⟨a', m', c', hsl⟩ := hr.sl; subst hsl; clear hr hB hz hk' hat bx s6 d0_0 d0_1 d0_2 d0_3 d0_4)
          have bx := HV.out.box.cell
          have HLF := Lib.hid (show (IS 3 ++ args).length ≤ 1000000000 from by simp only [List.length_append]; omega)
          go_wp2_with fail
          refine (asc_row HV.out.ri HLF.out).mono ?_
          rintro _ w5 ⟨v1, rfl, hr1, hE5⟩
          have HRA := Lib.hid (hr1.lw (show w.heap.size ≤ _ from by have := HB.out.size; have := HX2.out.size; omega))
          have HRO := Lib.hid (HV.out.ro.ext hE5)
          have HE5 := Lib.hid (Ext.trans (grB_ext HX2.out HB.out (by omega)) hE5)
          clear hr1 hE5 bx
          go_wp2_with fail
          refine (asc_row HRO.out (by omega)).mono ?_
          rintro _ w6 ⟨v2, rfl, hr2, hE6⟩
          have HRB := Lib.hid (hr2.lw HE5.out.size)
          have HRA6 := Lib.hid (HRA.out.ext hE6)
          have HE6 := Lib.hid (Ext.trans HE5.out hE6)
          clear hr2 hE6
          go_wp2
          go_ret2
          exact ⟨v1, v2, rfl, by rw [HR1.out, if_pos HGG.out]; exact HRA6.out, by rw [HR2.out]; exact HRB.out, HE6.out⟩
        ·
          go_wp2_with (at_builtin; go_loud (refine wp_appF rfl _ _ (by rfl) w2.heap.size vi _ (by rfl) _ HR.out.ri args y yc (by rfl) HAR.out HLN.out HLM.out hbz ?_); intro v' w' hr hB hz hk' hat; have HV := Lib.hid (HR.out.appI hr hk' (hat.imp id (fun e => ⟨_, e, Nat.le_refl _⟩))); have HB := Lib.hid (grB_set (grB_below HE.out hB) v'); have hbc := (HR.out.boxKept hk').cell; have hbf := (HR.out.boxKept hk').frozen; obtain ⟨a', m', c', hsl⟩ := hr.sl; subst hsl; clear hr hB hz hk' hat bx s6 d0_0 d0_1 d0_2 d0_3 d0_4)
          have bx := HV.out.box.cell
          have HLF := Lib.hid (show (IS 3 ++ args).length ≤ 1000000000 from by simp only [List.length_append]; omega)
          go_wp2_with fail
          refine (asc_row HV.out.ri HLF.out).mono ?_
          rintro _ w5 ⟨v1, rfl, hr1, hE5⟩
          have HRA := Lib.hid (hr1.lw (show w.heap.size ≤ _ from by have := HB.out.size; have := HX2.out.size; omega))
          have HRO := Lib.hid (HV.out.ro.ext hE5)
          have HE5 := Lib.hid (Ext.trans (grB_ext HX2.out HB.out (by omega)) hE5)
          clear hr1 hE5 bx
          go_wp2_with fail
          refine (asc_row HRO.out (by omega)).mono ?_
          rintro _ w6 ⟨v2, rfl, hr2, hE6⟩
          have HRB := Lib.hid (hr2.lw HE5.out.size)
          have HRA6 := Lib.hid (HRA.out.ext hE6)
          have HE6 := Lib.hid (Ext.trans HE5.out hE6)
          clear hr2 hE6
          go_wp2
          go_ret2
          exact ⟨v1, v2, rfl, by rw [HR1.out, if_pos HGG.out]; exact HRA6.out, by rw [HR2.out]; exact HRB.out, HE6.out⟩
      case neg =>
        have HGG := Lib.hid hg
        have z1 : (g == 1) = false := beq_eq_false_iff_ne.2 (fun e => hg (.inl e))
        have z2 : (g == 2) = false := beq_eq_false_iff_ne.2 (fun e => hg (.inr e))
        have z3 : (g == 3) = false := beq_eq_false_iff_ne.2 h3
        have HV := HR
        have HB := HE
        have bx := HV.out.box.cell
        have HLF := Lib.hid (show (IS 3).length ≤ 1000000000 from by omega)
        go_wp2_with fail
        refine (asc_row HV.out.ri HLF.out).mono ?_
        rintro _ w5 ⟨v1, rfl, hr1, hE5⟩
        have HRA := Lib.hid (hr1.lw (show w.heap.size ≤ _ from by have := HB.out.size; have := HX2.out.size; omega))
        have HRO := Lib.hid (HV.out.ro.ext hE5)
        have HE5 := Lib.hid (Ext.trans (grB_ext HX2.out HB.out (by omega)) hE5)
        clear hr1 hE5 bx
        go_wp2_with fail
        refine (asc_row HRO.out (by omega)).mono ?_
        rintro _ w6 ⟨v2, rfl, hr2, hE6⟩
        have HRB := Lib.hid (hr2.lw HE5.out.size)
        have HRA6 := Lib.hid (HRA.out.ext hE6)
        have HE6 := Lib.hid (Ext.trans HE5.out hE6)
        clear hr2 hE6
        go_wp2
        go_ret2
        exact ⟨v1, v2, rfl, by rw [HR1.out, if_neg HGG.out, List.append_nil]; exact HRA6.out, by rw [HR2.out]; exact HRB.out, HE6.out⟩

end Go.Proofs.YtfkjokbhnblndaaDoor

namespace Go.Proofs.YtfkjokbhnblndaaDoor
open Go.RowKit
set_option linter.unusedVariables false

/-- one operation -/
def GoesI (lr n0 : Nat) (P : Program) (l : List Oper) (R : World → World → Prop) (Φ : Nat → (Nat → Value) → World → Prop) (i : Nat) (o : Oper) (a' : Act) (W : World) (Q : Exit → Act → World → Prop) : Prop :=
  if Region.wanted o (yielded l.toArray a'.tmps) then
    o.wpIn (Fence.wide.inRound lr) n0 P a' W (fun a2 W2 => ∃ v, a2 = a'.put o.dst v ∧ R W W2 ∧ ∀ s : Nat → Value, (o.dst.isSome = true → s i = v) → (∀ k, k ≠ i → ancB l l.length i k = true → s k = sv l a' k) → Φ i s W2) Q
  else R W W ∧ ∀ s : Nat → Value, (o.dst.isSome = true → s i = undef) → (∀ k, k ≠ i → ancB l l.length i k = true → s k = sv l a' k) → Φ i s W
/-- an operation that yields a value -/
theorem GoesI.value {lr n0 : Nat} {P : Program} {l : List Oper} {R : World → World → Prop} {Φ : Nat → (Nat → Value) → World → Prop} {i : Nat} {o : Oper} {a' : Act} {W W' : World} {Q : Exit → Act → World → Prop} (v : Value) (hg : o.guard = none) (hnd : ∀ c, o.op ≠ .defer c) (hrun : (execOp a'.eval o).run P W = .ok (.value v) W') (hR : R W W')
    (hΦ : ∀ s : Nat → Value, (o.dst.isSome = true → s i = v) → (∀ k, k ≠ i → ancB l l.length i k = true → s k = sv l a' k) → Φ i s W') : GoesI lr n0 P l R Φ i o a' W Q := by
  unfold GoesI
  rw [if_pos (by simp [Region.wanted, hg])]
  unfold Oper.wpIn
  refine ⟨fun _ _ => trivial, ?_⟩
  rw [Oper.semAt_eq _ _ _ hnd, hrun]
  exact ⟨v, rfl, hR, hΦ⟩
/-- the tail -/
theorem tail_anyI {lr n0 : Nat} {P : Program} {Q : Exit → Act → World → Prop} {l : List Oper} {n : Nat} (hback : backB l = true) (ht : tailB l n = true) :
    ∀ (rest : List Oper) (k : Nat) (listed : Array Bool) (a : Act) (W : World), rest = l.drop k → n ≤ k → k ≤ l.length → listed.size = l.length → (∀ j, j < k → listed.getD j false = true) → (∀ j, k ≤ j → listed.getD j false = false) →
      wpListIn (Fence.wide.inRound lr) n0 P l.toArray Q rest a W → wpAnyIn (Fence.wide.inRound lr) n0 P .any l.toArray Q (l.length - k) listed a W := by
  intro rest
  induction rest with
  | nil =>
    intro k listed a W hr hn hk hs h1 h2 hw
    have hkl : l.length = k := by
      have := congrArg List.length hr
      simp at this; omega
    have h0 : Region.ready .any l.toArray listed = [] := by
      apply List.eq_nil_iff_forall_not_mem.2
      intro i hi
      obtain ⟨g1, o, ho, _⟩ := mem_ready.1 hi
      have hi' : i < l.length := by have := (Array.getElem?_eq_some_iff.1 ho).1; simpa using this
      rw [getD_of_lt (by omega) true false, h1 i (by omega)] at g1
      cases g1
    rw [show l.length - k = 0 by omega]
    exact ⟨h0, hw⟩
  | cons o rest ih =>
    intro k listed a W hr hn hk hs h1 h2 hw
    have hkl : k < l.length := by
      have := congrArg List.length hr
      simp at this; omega
    have hlk : l[k]? = some o := by
      have := congrArg (·[0]?) hr
      simp at this
      simpa using this.symm
    have hrest : rest = l.drop (k + 1) := by
      have := congrArg List.tail hr
      simpa using this
    have hkr : k ∈ Region.ready .any l.toArray listed := by
      rw [mem_ready]
      refine ⟨by rw [getD_of_lt (by omega) true false]; exact h2 k (Nat.le_refl _), o, by simpa using hlk, fun e he hb => ?_⟩
      exact h1 e.on (backB_spec hback hlk he hb)
    rw [show l.length - k = (l.length - (k + 1)) + 1 by omega]
    refine ⟨fun h0 => absurd hkr (by rw [h0]; simp), fun i hi => ?_⟩
    obtain ⟨g1, oi, hoi, hwait⟩ := mem_ready.1 hi
    have hoi' : l[i]? = some oi := by simpa using hoi
    have hil : i < l.length := (List.getElem?_eq_some_iff.1 hoi').1
    have hik : i = k := by
      rw [getD_of_lt (by omega) true false] at g1
      rcases Nat.lt_trichotomy i k with h | h | h
      · rw [h1 i h] at g1; cases g1
      · exact h
      · exfalso
        have ha := tailB_spec ht hil (by omega) h
        revert ha
        cases hL : l.length with
        | zero => omega
        | succ m =>
          intro ha
          unfold ancB at ha
          rw [hoi'] at ha
          obtain ⟨e, he, hh⟩ := List.any_eq_true.1 ha
          simp only [Bool.and_eq_true, Bool.or_eq_true, decide_eq_true_eq] at hh
          have h3 := hwait e (by simpa using he) hh.1
          have h4 : e.on < k := by
            rcases Nat.lt_or_ge e.on k with h5 | h5
            · exact h5
            · rw [h2 e.on h5] at h3; cases h3
          rcases hh.2 with h5 | h5
          · omega
          · have := anc_back hback _ _ _ h5; omega
    subst hik
    have hK : ∀ a' W', wpListIn (Fence.wide.inRound lr) n0 P l.toArray Q rest a' W' → wpAnyIn (Fence.wide.inRound lr) n0 P .any l.toArray Q (l.length - (i + 1)) (listed.setIfInBounds i true) a' W' := by
      intro a' W' hw'
      refine ih (i + 1) _ a' W' hrest (by omega) hkl (by simpa using hs) (fun j hj => ?_) (fun j hj => ?_) hw'
      · by_cases e : j = i
        · subst e; simp [Array.getD_eq_getD_getElem?, hs, hkl]
        · rw [getD_set_ne false (Ne.symm e)]; exact h1 j (by omega)
      · rw [getD_set_ne false (by omega)]; exact h2 j (by omega)
    unfold wpOpIn
    rw [show l.toArray[i]? = some o by simpa using hlk]
    unfold wpListIn at hw
    dsimp only
    split
    · rename_i hwant
      rw [if_pos hwant] at hw
      exact Oper.wpIn_mono hK hw
    · rename_i hwant
      rw [if_neg hwant] at hw
      exact ⟨hw.1, hK _ _ hw.2⟩

theorem wpIn_region_tail {lr n0 : Nat} {P : Program} {id : Nat} {Q : Exit → Act → World → Prop} {a : Act} {w : World} {l1 l2 : List Oper} (hm : P.follows .mixedOrders = true)
    (R : World → World → Prop) (hRr : ∀ W, R W W) (hR0 : ∀ W : World, R W { W with drawn := W.drawn + 1 }) (hRt : ∀ {A B C}, R A B → R B C → R A C)
    (Φ : Nat → (Nat → Value) → World → Prop) (D : Nat → List Nat) (hst : ∀ j s s' W W', Φ j s W → (∀ k ∈ D j, s' k = s k) → R W W' → Φ j s' W')
    (hback : backB (l1 ++ l2) = true) (hun : uniqB (l1 ++ l2) = true) (hreads : readsB (l1 ++ l2) D = true) (N : Nat) (hN : a.tmps.size = N) (hinB : (((l1 ++ l2).filterMap (·.dst)).all fun d => decide (d < N)) = true)
    (htail : tailB (l1 ++ l2) l1.length = true)
    (hstep : ∀ (i : Nat) o, l1[i]? = some o → ∀ a' W, AtG (l1 ++ l2) R Φ a w i o a' W → GoesI lr n0 P (l1 ++ l2) R Φ i o a' W Q)
    (hend : ∀ (vs : List Value) W, vs.length = l1.length → R w W → (∀ j, j < l1.length → Φ j (fun k => vs.getD k undef) W) → wpListIn (Fence.wide.inRound lr) n0 P (l1 ++ l2).toArray Q l2 (putAll l1 vs a) W) :
    (Code.region id (l1 ++ l2).toArray true).wpIn (Fence.wide.inRound lr) n0 P Q a w := by
  have hin : ∀ d ∈ (l1 ++ l2).filterMap (·.dst), d < a.tmps.size := fun d hd => by rw [hN]; exact of_decide_eq_true (List.all_eq_true.1 hinB d hd)
  generalize hl : l1 ++ l2 = l at *
  have hl1 : ∀ j, j < l1.length → l1[j]? = l[j]? := fun j hj => by rw [← hl, List.getElem?_append_left hj]
  have hlen : l1.length ≤ l.length := by rw [← hl]; simp
  have hdrop : l2 = l.drop l1.length := by rw [← hl]; simp
  refine wpIn_region_any hm ?_
  have fin : ∀ (listed : Array Bool) (a' : Act) (W : World), listed.toList.count false = l.length - l1.length → (∀ j, l1.length ≤ j → listed.getD j false = false) → (∀ j, j < l1.length → listed.getD j false = true) → InvG l R Φ a w listed a' W →
      wpAnyIn (Fence.wide.inRound lr) n0 P .any l.toArray Q (l.length - l1.length) listed a' W := by
    intro listed a' W hc hlo hall hI
    refine tail_anyI hback htail l2 l1.length listed a' W hdrop (Nat.le_refl _) hlen hI.lsize hall hlo ?_
    have e : a' = putAll l1 (l1.map fun o => match o.dst with | none => undef | some d => a'.tmps.getD d undef) a := by
      refine act_eq (by rw [putAll_size]; exact hI.size) (by rw [putAll_defers]; exact hI.defers) ?_
      intro d hlt
      by_cases hm : d ∈ l1.filterMap (·.dst)
      · obtain ⟨o, ho, hod⟩ := List.mem_filterMap.1 hm
        obtain ⟨j, hj⟩ := List.getElem?_of_mem ho
        have hjl : j < l1.length := (List.getElem?_eq_some_iff.1 hj).1
        rw [putAll_self l1 _ a j o d (by simp) hj hod (fun i p hp e => uniqB_spec hun (by rw [← hl1 i (List.getElem?_eq_some_iff.1 hp).1]; exact hp) (by rw [← hl1 j hjl]; exact hj) e hod) (by rw [← hI.size]; exact hlt)]
        rw [List.getD_eq_getElem?_getD, List.getElem?_map, hj]
        simp [hod]
      · rw [putAll_other l1 _ a d (fun o ho e => hm (List.mem_filterMap.2 ⟨o, ho, e⟩))]
        refine hI.old d (fun j oj hj hd => ?_)
        rcases Nat.lt_or_ge j l1.length with h | h
        · exact absurd (List.mem_filterMap.2 ⟨oj, List.mem_of_getElem? (by rw [hl1 j h]; exact hj), hd⟩) hm
        · exact hlo j h
    rw [e]
    refine hend _ W (by simp) hI.rel (fun j hj => ?_)
    refine hst j _ _ W W (hI.new j (by omega) (hall j hj)) (fun k hk => ?_) (hRr W)
    have hkj : k ≤ j := by
      have h1 := List.all_eq_true.1 (List.all_eq_true.1 hreads j (List.mem_range.2 (by omega))) k hk
      simp only [Bool.or_eq_true, decide_eq_true_eq] at h1
      rcases h1 with h1 | h1
      · omega
      · exact Nat.le_of_lt (anc_back hback _ _ _ h1)
    have hkl : k < l1.length := by omega
    unfold sv
    rw [List.getD_eq_getElem?_getD, List.getElem?_map, hl1 k hkl]
    cases hk : l[k]? with
    | none => rfl
    | some o => cases hod : o.dst <;> simp [hod]
  have main : ∀ (fuel : Nat) (listed : Array Bool) (a' : Act) (W : World), listed.toList.count false = fuel → (∀ j, l1.length ≤ j → listed.getD j false = false) → InvG l R Φ a w listed a' W → wpAnyIn (Fence.wide.inRound lr) n0 P .any l.toArray Q fuel listed a' W := by
    intro fuel
    have cnt : ∀ (listed : Array Bool), listed.size = l.length → (∀ j, l1.length ≤ j → listed.getD j false = false) → (∀ j, j < l1.length → listed.getD j false = true) → listed.toList.count false = l.length - l1.length := by
      intro listed hs hlo hall
      have e : listed.toList = List.replicate l1.length true ++ List.replicate (l.length - l1.length) false := by
        apply List.ext_getElem?
        intro i
        by_cases hi : i < listed.size
        · have hg : ∀ b, listed.getD i false = b → listed.toList[i]? = some b := fun b hb => by
            rw [getD_of_lt hi false true] at hb
            simp only [Array.getD_eq_getD_getElem?, Array.getElem?_eq_getElem hi, Option.getD_some] at hb
            simp [hi, hb]
          by_cases h : i < l1.length
          · rw [hg true (hall i h), List.getElem?_append_left (by simpa using h)]
            simp [h]
          · rw [hg false (hlo i (by omega)), List.getElem?_append_right (by simp; omega), List.getElem?_replicate, if_pos (by rw [List.length_replicate]; omega)]
        · rw [List.getElem?_eq_none (by simpa using hi), List.getElem?_eq_none (by simp; omega)]
      rw [e, List.count_append, List.count_replicate, List.count_replicate]
      simp
    induction fuel with
    | zero =>
      intro listed a' W hc hlo hI
      have hall' : ∀ i, i < l.length → listed.getD i false = true := by
        intro i hi
        have hi' : i < listed.size := by rw [hI.lsize]; exact hi
        cases hb : listed.getD i false with
        | true => rfl
        | false =>
          exfalso
          have : false ∈ listed.toList := by
            simp only [Array.getD_eq_getD_getElem?, Array.getElem?_eq_getElem hi', Option.getD_some] at hb
            rw [← hb]; simp
          have := List.count_pos_iff.2 this
          omega
      have hall : ∀ i, i < l1.length → listed.getD i false = true := fun i hi => hall' i (by omega)
      have hc2 := cnt listed hI.lsize hlo hall
      have := fin listed a' W hc2 hlo hall hI
      rw [show l.length - l1.length = 0 by omega] at this
      exact this
    | succ fuel ih =>
      intro listed a' W hc hlo hI
      by_cases hall : ∀ j, j < l1.length → listed.getD j false = true
      · have hc2 := cnt listed hI.lsize hlo hall
        have := fin listed a' W hc2 hlo hall hI
        rw [show l.length - l1.length = fuel + 1 by omega] at this
        exact this
      · obtain ⟨j0, hj0⟩ := Classical.not_forall.1 hall
        obtain ⟨hj0l, hj0f⟩ := Classical.not_imp.1 hj0
        refine ⟨fun h0 => ?_, fun i hi => ?_⟩
        · exact absurd (all_listed hback hI.lsize h0 j0 (by omega)) hj0f
        · obtain ⟨hl0, o, ho, hwait⟩ := mem_ready.1 hi
          have ho' : l[i]? = some o := by simpa using ho
          have hil : i < l.length := (List.getElem?_eq_some_iff.1 ho').1
          have hil' : i < listed.size := by rw [hI.lsize]; exact hil
          have hlf : listed.getD i false = false := by
            rw [getD_of_lt hil' false true]; exact hl0
          have hanc : ∀ n k, ancB l n i k = true → listed.getD k false = true := by
            intro n k hk
            cases n with
            | zero => simp [ancB] at hk
            | succ n =>
              unfold ancB at hk
              rw [ho'] at hk
              obtain ⟨e, he, hh⟩ := List.any_eq_true.1 hk
              simp only [Bool.and_eq_true, Bool.or_eq_true, decide_eq_true_eq] at hh
              have h1 := hwait e (by simpa using he) hh.1
              rcases hh.2 with h2 | h2
              · rw [← h2]; exact h1
              · exact hI.down.anc n e.on k h1 h2
          have hi1 : i < l1.length := by
            rcases Nat.lt_or_ge i l1.length with h | h
            · exact h
            · exact absurd (hanc _ _ (tailB_spec htail hil h (by omega : j0 < i))) hj0f
          have hAt : AtG l R Φ a w i o a' W := ⟨hI.rel, hI.size, hI.defers,
            fun d hd => hI.old d (fun j oj hj hdj => by
              have hji := hd j oj hj hdj
              cases hlj : listed.getD j false with
              | false => rfl
              | true =>
                have := hI.down.anc _ j i hlj hji
                rw [hlf] at this; cases this),
            fun j hj ha => hI.new j hj (hanc _ j ha)⟩
          have hG := hstep i o (by rw [hl1 i hi1]; exact ho') a' W hAt
          have hnext : ∀ v W2, R W W2 → (∀ s : Nat → Value, (o.dst.isSome = true → s i = v) → (∀ k, k ≠ i → ancB l l.length i k = true → s k = sv l a' k) → Φ i s W2) → wpAnyIn (Fence.wide.inRound lr) n0 P .any l.toArray Q fuel (listed.setIfInBounds i true) (a'.put o.dst v) W2 := by
            intro v W2 hR hv
            have hin' : ∀ d ∈ l.filterMap (·.dst), d < a'.tmps.size := fun d hd => by rw [hI.size]; exact hin d hd
            have hset : ∀ j, j ≠ i → (listed.setIfInBounds i true).getD j false = listed.getD j false := fun j hj => getD_set_ne false (Ne.symm hj)
            refine ih _ _ _ ?_ (fun j hj => by rw [hset j (by omega)]; exact hlo j hj) ?_
            · have := count_set listed.toList i (by simp [hil']; simpa [Array.getD_eq_getD_getElem?, hil'] using hlf)
              rw [Array.toList_setIfInBounds]; omega
            · refine ⟨hRt hI.rel hR, by simpa using hI.lsize, by rw [put_size]; exact hI.size, by rw [put_defers]; exact hI.defers, ?_, ?_, ?_⟩
              · intro d hd
                have hne : o.dst ≠ some d := fun e => by
                  have := hd i o ho' e
                  simp [Array.getD_eq_getD_getElem?, hil'] at this
                rw [put_other hne]
                refine hI.old d (fun j oj hj hdj => ?_)
                by_cases hji : j = i
                · subst hji; exact hlf
                · have := hd j oj hj hdj
                  rwa [hset j hji] at this
              · intro j hj hlj
                by_cases hji : j = i
                · subst hji
                  exact hv _ (fun hd => sv_put_self ho' hin' hd) (fun k hk _ => sv_put_other hun ho' hk)
                · rw [hset j hji] at hlj
                  refine hst j _ _ _ _ (hI.new j hj hlj) (fun k hk => sv_put_other hun ho' ?_) hR
                  rintro rfl
                  have h1 := List.all_eq_true.1 (List.all_eq_true.1 hreads j (List.mem_range.2 hj)) k hk
                  simp only [Bool.or_eq_true, decide_eq_true_eq] at h1
                  rcases h1 with h1 | h1
                  · exact hji h1.symm
                  · have := hI.down.anc _ j k hlj h1
                    rw [hlf] at this; cases this
              · intro j oj hj hlj e he hb
                by_cases hji : j = i
                · subst hji
                  rw [ho'] at hj; cases hj
                  exact getD_set_true (hwait e he hb)
                · rw [hset j hji] at hlj
                  exact getD_set_true (hI.down j oj hj hlj e he hb)
          unfold wpOpIn
          rw [show l.toArray[i]? = some o by simpa using ho']
          unfold GoesI at hG
          by_cases hwant : Region.wanted o (yielded l.toArray a'.tmps) = true
          · rw [if_pos hwant] at hG
            simp only [hwant, if_true]
            exact Oper.wpIn_mono (fun a2 W2 ⟨v, e, hR, hv⟩ => by rw [e]; exact hnext v W2 hR hv) hG
          · rw [if_neg hwant] at hG
            simp only [hwant]
            exact ⟨fun _ _ => trivial, hnext undef W hG.1 hG.2⟩
  have h0 := main l.length (Array.replicate l.length false) a { w with drawn := w.drawn + 1 } (by simp) (fun j _ => getD_false _ _)
    ⟨hR0 w, by simp, rfl, rfl, fun _ _ => rfl, (fun j _ h => by rw [getD_false] at h; cases h), (fun j oj _ h => by rw [getD_false] at h; cases h)⟩
  simpa using h0

end Go.Proofs.YtfkjokbhnblndaaDoor

namespace Go.Proofs.YtfkjokbhnblndaaDoor
open Go.RowKit
set_option linter.unusedVariables false
set_option linter.unusedSimpArgs false
attribute [local go_sem] Oper.semAt_some

section
variable {Fc : Fence} {n0 : Nat} {ops : Array Oper} {rest : List Oper} {o : Oper} {a : Act} {Q : Exit → Act → World → Prop}
/-- append of one number, the row that it lies in being any -/
theorem wpI_appK (hgd : o.guard = none) (s x : Operand) (ho : o.op = .call { callee := .builtin .append, args := #[s, x], argTypes := #[54, 54] })
    (base : Nat) (v : Value) (l : List Int) (hs : a.eval s = v) (W : World) (h : RowI base v l W) (n : Int) (g : Nat) (hx : a.eval x = .slice (some ⟨g, 0, none⟩) 1 1) (hc : W.cell? ⟨g, 0, none⟩ = some (.int .i64 n)) (hlen : l.length ≤ 1000000000) (hbase : base ≤ W.heap.size)
    (hK : ∀ v' w', RowI base v' (l ++ [n]) w' → W.grownBy w' v.ownBlock → (v'.ownBlock = v.ownBlock ∨ v'.ownBlock = some W.heap.size) → wpListIn Fc n0 Tryd.prog ops Q rest (a.put o.dst v') w') : wpListIn Fc n0 Tryd.prog ops Q (o :: rest) a W := by
  obtain ⟨i0, hi, hz0, hz1, hz2⟩ := info_parts infoI'
  refine wpListIn_append_own_at _ hgd s x 54 ho base 3 i0 (.int .i64 0) 1 8 Tryd.underlying54 hi hz0 hz1 hz2 rfl (by decide) v l.length (l.map (Value.int .i64)) hs h ⟨g, 0, none⟩ 1 1 [.int .i64 n] hx rfl (fun j u hu => ?_) (by simp [Value.oneCell']) (by unfold maxLen; omega) (by omega) hbase ?_
  · match j, hu with
    | 0, hu => cases hu; exact hc
  · intro v' w' hown hg _ hat
    refine hK v' w' ?_ hg hat
    unfold RowI
    simpa using hown
end
theorem rowI_cells {W : World} {base : Nat} {v : Value} {l : List Int} (h : RowI base v l W) : ∀ (j : Nat) (o : Obj), v.ownBlock = some j → W.heap[j]? = some o → o.isCells = true := by
  intro j o ej hj
  rcases h.2 with ⟨rfl, _⟩ | ⟨g, cap, cur, rfl, _, hgb, _⟩
  · simp [Value.ownBlock] at ej
  · obtain rfl : g = j := by simpa [Value.ownBlock] using ej
    rw [hgb] at hj; cases hj; rfl
theorem rowI_own {β : Type} (base : Nat) (v : Value) (l : List Int) : Own (fun (_ : β) W => RowI base v l W) := fun s X Y row hs hg hr =>
  hs.kept (fun g e => hg.block g (hs.blk e) (fun e2 => by
    obtain ⟨o, h1, h2⟩ := hr g e2.symm
    rw [rowI_cells hs g o e h1] at h2
    cases h2))
theorem rh_step {n₀ nB B1 B2 b0 bo : Nat} {v v' u : Value} {L L' lo : List Int} {W w4 w' : World} (h1 : Boxed W b0 54 v) (h2 : RowI nB v L W) (h3 : RowI bo u lo W) (hu : ∀ g, u.ownBlock = some g → g < nB) (hE : Ext W w4) (hr : RowI nB v' L' w') (hg : w4.grownBy w' v.ownBlock)
    (hn0 : n₀ ≤ W.heap.size) (hnB : n₀ ≤ nB) (hB1 : B1 < nB) (hB2 : B2 < nB) (hb0 : n₀ ≤ b0) (n1 : B1 ≠ b0) (n2 : B2 ≠ b0) :
    Boxed w' b0 54 v ∧ (∀ B, KeepsFrom B W (w'.setCell ⟨b0, 0, none⟩ v')) ∧ Kc n₀ B1 B2 W (w'.setCell ⟨b0, 0, none⟩ v') ∧ Boxed (w'.setCell ⟨b0, 0, none⟩ v') b0 54 v' ∧ RowI nB v' L' (w'.setCell ⟨b0, 0, none⟩ v') ∧ RowI bo u lo (w'.setCell ⟨b0, 0, none⟩ v') ∧ W.heap.size ≤ (w'.setCell ⟨b0, 0, none⟩ v').heap.size ∧ Below n₀ W (w'.setCell ⟨b0, 0, none⟩ v') := by
  have hr4 := h2.ext hE
  have hb4 : Boxed w4 b0 54 v := (hE.below.block _ h1.lt).trans h1
  have hB := hb4.kept hg (hb4.not_row (by decide) hr4)
  have hrow : ∀ g, v.ownBlock = some g → nB ≤ g := fun g e => (World.ownsRow.lt hr4 g e).1
  have hset : ∀ {base x l}, RowI base x l w' → RowI base x l (w'.setCell ⟨b0, 0, none⟩ v') := fun {base x l} hx => hx.kept (fun g e => Below.heap_setCell _ _ _ g (fun e2 => (hB.not_row (by decide) hx) (by rw [e]; cases e2; rfl)))
  have hbel : Below n₀ w4 w' := (Below.refl n₀ w4).grown hg (Nat.le_trans hn0 hE.size) (fun k e => Nat.le_trans hnB (hrow k e))
  have hbs : Below n₀ w' (w'.setCell ⟨b0, 0, none⟩ v') := (Below.refl n₀ w').setCell (p := ⟨b0, 0, none⟩) hb0 v'
  have hu4 : RowI bo u lo w' := (h3.ext hE).kept (fun g e => hg.block g ((h3.ext hE).blk e) (fun e2 => by have := hu g e; have := hrow g e2.symm; omega))
  refine ⟨hB, fun B => ((keepsFrom_ext hE).trans ((KeepsOthers.of_grownBy hg (rowI_cells hr4)).from _)).trans ((KeepsOthers.setCell _ _ _).from _), ?_, hB.set v', hset hr, hset hu4, Nat.le_trans hE.size (Nat.le_trans hg.size hbs.size), Below.trans (hE.mono hn0) (Below.trans hbel hbs)⟩
  exact ((Kc.of_ext hE hn0).trans ⟨hbel, fun hl => hg.block B1 hl (fun e => by have := hrow B1 e.symm; omega), fun hl => hg.block B2 hl (fun e => by have := hrow B2 e.symm; omega)⟩).trans (Kc.setCell w' b0 v' hb0 n1 n2)
/-- what the cases that send read -/
def rdC (l : List Int) (js : List Nat) : List Int := js.flatMap fun j => if l.getD (3 * j) 0 = 1 then [l.getD (3 * j + 2) 0] else []
theorem rdC_app (l : List Int) (xs ys : List Nat) : rdC l (xs ++ ys) = rdC l xs ++ rdC l ys := by simp [rdC]
theorem rdC_len (l : List Int) : ∀ xs, (rdC l xs).length ≤ xs.length
  | [] => by simp [rdC]
  | x :: xs => by
    have h1 := rdC_len l xs
    have h2 : (if l.getD (3 * x) 0 = 1 then [l.getD (3 * x + 2) 0] else []).length ≤ 1 := by split <;> simp
    have h3 : rdC l (x :: xs) = (if l.getD (3 * x) 0 = 1 then [l.getD (3 * x + 2) 0] else []) ++ rdC l xs := by simp [rdC]
    rw [h3, List.length_append, List.length_cons]
    omega

set_option maxRecDepth 100000 in
set_option maxHeartbeats 4000000 in
theorem Registers_67 (xa xb xc : Int) (l : List Int) (b off c m : Nat) (w : World) (hI : IntsAt w (some ⟨b, off, none⟩) l) (hlen : l.length = 3 * m) (hm1 : 1 ≤ m) (hm6 : m ≤ 6) (hcap : l.length ≤ c) :
    Calls Tryd.prog 27 #[.agg #[.int .i64 67, .int .i64 xa, .int .i64 xb, .int .i64 xc, .slice (some ⟨b, off, none⟩) l.length c]] w (RetRR w (asc (rdC l (List.range m))) (asc [xa, xb, xc])) := by
  have HL := Lib.hid hI
  have HLen := Lib.hid hlen
  rw [hlen]
  rw [hlen] at hcap
  clear hI
  have KS := Lib.hid (fun W => shapeOf_67 W)
  have HWK := Lib.hid (alloc_here w (.cells #[.int .i64 67, .int .i64 xa, .int .i64 xb, .int .i64 xc, .slice (some ⟨b, off, none⟩) (3 * m) c] 56))
  have HEK := Lib.hid (show Ext w (w.alloc (.cells #[.int .i64 67, .int .i64 xa, .int .i64 xb, .int .i64 xc, .slice (some ⟨b, off, none⟩) (3 * m) c] 56)) from ext_alloc (Below.refl _ _) _)
  refine (callsIn_wide (n := 9)).1 ?_
  refine callsIn_of_wp_marks Tryd.func27 rfl trivial ?_ rfl
  simp only [Tryd.ntmps27, List.size_toArray, List.length_cons, List.length_nil, Nat.reduceAdd, Nat.reduceSub, Array.replicate_succ, Array.replicate_zero, List.push_toArray, List.append_toArray, List.nil_append, List.cons_append]
  gi_wp2_with (fail)
  generalize hwk : w.alloc (.cells #[.int .i64 67, .int .i64 xa, .int .i64 xb, .int .i64 xc, .slice (some ⟨b, off, none⟩) (3 * m) c] 56) = wk at *
  have HZK := Lib.hid (show wk.heap.size = w.heap.size + 1 from by rw [← hwk]; simp)
  clear hwk
  refine ⟨trivial, callsIn_wide.2 ((KS.out _).mono ?_)⟩
  intro w1 hE
  have HE1 := Lib.hid (show Ext wk w1 from hE)
  have HX1 := Lib.hid (Ext.trans HEK.out HE1.out)
  clear hE
  gi_wp2_with (fail)
  obtain ⟨w2, hw2⟩ : ∃ W, W = (((w1.alloc (.cells #[.int .i64 4, .int .i64 0, .int .i64 4, .int .i64 0, .int .i64 4, .int .i64 0, .int .i64 3] 90)).alloc (.cells #[.slice none 0 0] 54)).alloc (.cells #[.int .i64 4, .int .i64 0, .int .i64 4, .int .i64 0, .int .i64 4, .int .i64 0] 88)) := ⟨_, rfl⟩
  rw [← hw2]
  have HSH := Lib.hid (show w2.heap[w1.heap.size]? = some (.cells #[.int .i64 4, .int .i64 0, .int .i64 4, .int .i64 0, .int .i64 4, .int .i64 0, .int .i64 3] 90 (0, 0)) from by
    rw [hw2]; exact (Below.heap_alloc _ _ _ (by simp; omega)).trans ((Below.heap_alloc _ _ _ (by simp)).trans (alloc_here _ _)))
  have HBX := Lib.hid (show Boxed w2 (w1.heap.size + 1) 54 (.slice none 0 0) from by
    have h := alloc_here (w1.alloc (.cells #[.int .i64 4, .int .i64 0, .int .i64 4, .int .i64 0, .int .i64 4, .int .i64 0, .int .i64 3] 90)) (.cells #[.slice none 0 0] 54)
    simp only [World.size_alloc] at h
    rw [hw2]; exact (Below.heap_alloc _ _ _ (by simp)).trans h)
  have HOPS := Lib.hid (show w2.heap[w1.heap.size + 1 + 1]? = some (.cells #[.int .i64 4, .int .i64 0, .int .i64 4, .int .i64 0, .int .i64 4, .int .i64 0] 88 (0, 0)) from by
    have h := alloc_here ((w1.alloc (.cells #[.int .i64 4, .int .i64 0, .int .i64 4, .int .i64 0, .int .i64 4, .int .i64 0, .int .i64 3] 90)).alloc (.cells #[.slice none 0 0] 54)) (.cells #[.int .i64 4, .int .i64 0, .int .i64 4, .int .i64 0, .int .i64 4, .int .i64 0] 88)
    simp only [World.size_alloc] at h
    rw [hw2]; exact h)
  have HE2 := Lib.hid (show Ext wk w2 from by rw [hw2]; exact ext_alloc (ext_alloc (ext_alloc HE1.out _) _) _)
  have HX2 := Lib.hid (Ext.trans HEK.out HE2.out)
  have HSZ := Lib.hid (show w2.heap.size = w1.heap.size + 3 from by rw [hw2]; simp)
  have hwk := HZK.out
  have hw1 := HE1.out.size
  clear hw2
  gi_loopw [7, 28] (fun vo i wr => ∃ k : Nat, k ≤ 3 ∧ i = .int .i64 (k : Int) ∧ RowI w2.heap.size vo ([xa, xb, xc].take k) wr ∧ Ext w2 wr) (fun _ i _ => 3 - (intOf i).toNat)
  case atStart => exact ⟨0, by omega, rfl, RowI.nil _ _, Below.refl _ _⟩
  case round =>
    obtain ⟨k, hk, rfl, hR, hE⟩ := hrel
    have HR := Lib.hid hR
    have HE := Lib.hid hE
    have hbz : w2.heap.size ≤ wr.heap.size := hE.size
    clear hR hE
    have hq := (HE.out.below.block _ (lt_of_block HOPS.out)).trans HOPS.out
    have q0 := cell_of hq (i := 0) rfl
    have q1 := cell_of hq (i := 1) rfl
    have q2 := cell_of hq (i := 2) rfl
    have q3 := cell_of hq (i := 3) rfl
    have q4 := cell_of hq (i := 4) rfl
    have q5 := cell_of hq (i := 5) rfl
    have hn := (Ext.trans HE2.out HE.out).below.block _ (lt_of_block HWK.out) |>.trans HWK.out
    have d0 := cell_of hn (i := 0) rfl
    have d1 := cell_of hn (i := 1) rfl
    have d2 := cell_of hn (i := 2) rfl
    have d3 := cell_of hn (i := 3) rfl
    have d4 := cell_of hn (i := 4) rfl
    have hql := lt_of_block hq
    have hx0 : w.heap.size < wr.heap.size := by have := HSZ.out; omega
    have hx1 : w.heap.size < wr.heap.size + 1 := by omega
    have hx2 : w.heap.size < wr.heap.size + 1 + 1 := by omega
    clear hq hn
    by_cases hlt : k < 3
    case pos =>
      have hcase : k = 0 ∨ k = 1 ∨ k = 2 := by omega
      rcases hcase with rfl | rfl | rfl
      ·
        clear hlt hk
        gi_upto_region 9 with fail
        have HEA := Lib.hid (show Ext wr ((wr.alloc (.cells #[.int .i64 4, .int .i64 0] 88)).alloc (.cells #[.int .i64 xa, .int .i64 xb, .int .i64 xc] 3)) from ext_alloc (ext_alloc (Below.refl _ _) _) _)
        have HTA := Lib.hid (show ((wr.alloc (.cells #[.int .i64 4, .int .i64 0] 88)).alloc (.cells #[.int .i64 xa, .int .i64 xb, .int .i64 xc] 3)).heap[wr.heap.size]? = some (.cells #[.int .i64 4, .int .i64 0] 88 (0, 0)) from (Below.heap_alloc _ _ _ (by simp)).trans (alloc_here _ _))
        generalize ((wr.alloc (.cells #[.int .i64 4, .int .i64 0] 88)).alloc (.cells #[.int .i64 xa, .int .i64 xb, .int .i64 xc] 3)) = wq at *
        have HRQ := Lib.hid (HR.out.ext HEA.out)
        have HRN := Lib.hid (show RowI w2.heap.size _ _ (wq.alloc (.cells #[.int .i64 xa] 3)) from HRQ.out.ext (ext_alloc (Below.refl _ _) _))
        have HEQ := Lib.hid (Ext.trans HE.out HEA.out)
        have HEN := Lib.hid (show Ext w2 (wq.alloc (.cells #[.int .i64 xa] 3)) from ext_alloc HEQ.out _)
        have t0 := cell_of HTA.out (i := 0) rfl
        have HCN := Lib.hid (cell_of (alloc_here wq (.cells #[.int .i64 xa] 3)) (i := 0) rfl)
        have hbn : w2.heap.size ≤ (wq.alloc (.cells #[.int .i64 xa] 3)).heap.size := HEN.out.size
        clear q0 q1 q2 q3 q4 q5 hql d0 d1 d2 d3 d4
        gi_wp2_with (gi_at_builtin; go_loud (refine wpI_appK rfl _ _ (by rfl) w2.heap.size _ _ (by rfl) _ HRN.out xa wq.heap.size (by rfl) HCN.out (by simp) hbn ?_); intro v' w' hr hg hat; have HV := Lib.hid hr; have HB := Lib.hid (show Ext w2 w' from Below.trans HEN.out ((Below.refl w2.heap.size _).grown hg hbn (fun k e => (World.ownsRow.lt HRN.out k e).1))); clear hr hg hat t0)
        go_roundw
        case rel => exact ⟨1, by omega, by go_num, HV.out, HB.out⟩
        case measure => simp [intOf]
      ·
        clear hlt hk
        gi_upto_region 9 with fail
        have HEA := Lib.hid (show Ext wr ((wr.alloc (.cells #[.int .i64 4, .int .i64 0] 88)).alloc (.cells #[.int .i64 xa, .int .i64 xb, .int .i64 xc] 3)) from ext_alloc (ext_alloc (Below.refl _ _) _) _)
        have HTA := Lib.hid (show ((wr.alloc (.cells #[.int .i64 4, .int .i64 0] 88)).alloc (.cells #[.int .i64 xa, .int .i64 xb, .int .i64 xc] 3)).heap[wr.heap.size]? = some (.cells #[.int .i64 4, .int .i64 0] 88 (0, 0)) from (Below.heap_alloc _ _ _ (by simp)).trans (alloc_here _ _))
        generalize ((wr.alloc (.cells #[.int .i64 4, .int .i64 0] 88)).alloc (.cells #[.int .i64 xa, .int .i64 xb, .int .i64 xc] 3)) = wq at *
        have HRQ := Lib.hid (HR.out.ext HEA.out)
        have HRN := Lib.hid (show RowI w2.heap.size _ _ (wq.alloc (.cells #[.int .i64 xb] 3)) from HRQ.out.ext (ext_alloc (Below.refl _ _) _))
        have HEQ := Lib.hid (Ext.trans HE.out HEA.out)
        have HEN := Lib.hid (show Ext w2 (wq.alloc (.cells #[.int .i64 xb] 3)) from ext_alloc HEQ.out _)
        have t0 := cell_of HTA.out (i := 0) rfl
        have HCN := Lib.hid (cell_of (alloc_here wq (.cells #[.int .i64 xb] 3)) (i := 0) rfl)
        have hbn : w2.heap.size ≤ (wq.alloc (.cells #[.int .i64 xb] 3)).heap.size := HEN.out.size
        clear q0 q1 q2 q3 q4 q5 hql d0 d1 d2 d3 d4
        gi_wp2_with (gi_at_builtin; go_loud (refine wpI_appK rfl _ _ (by rfl) w2.heap.size _ _ (by rfl) _ HRN.out xb wq.heap.size (by rfl) HCN.out (by simp) hbn ?_); intro v' w' hr hg hat; have HV := Lib.hid hr; have HB := Lib.hid (show Ext w2 w' from Below.trans HEN.out ((Below.refl w2.heap.size _).grown hg hbn (fun k e => (World.ownsRow.lt HRN.out k e).1))); clear hr hg hat t0)
        go_roundw
        case rel => exact ⟨2, by omega, by go_num, HV.out, HB.out⟩
        case measure => simp [intOf]
      ·
        clear hlt hk
        gi_upto_region 9 with fail
        have HEA := Lib.hid (show Ext wr ((wr.alloc (.cells #[.int .i64 4, .int .i64 0] 88)).alloc (.cells #[.int .i64 xa, .int .i64 xb, .int .i64 xc] 3)) from ext_alloc (ext_alloc (Below.refl _ _) _) _)
        have HTA := Lib.hid (show ((wr.alloc (.cells #[.int .i64 4, .int .i64 0] 88)).alloc (.cells #[.int .i64 xa, .int .i64 xb, .int .i64 xc] 3)).heap[wr.heap.size]? = some (.cells #[.int .i64 4, .int .i64 0] 88 (0, 0)) from (Below.heap_alloc _ _ _ (by simp)).trans (alloc_here _ _))
        generalize ((wr.alloc (.cells #[.int .i64 4, .int .i64 0] 88)).alloc (.cells #[.int .i64 xa, .int .i64 xb, .int .i64 xc] 3)) = wq at *
        have HRQ := Lib.hid (HR.out.ext HEA.out)
        have HRN := Lib.hid (show RowI w2.heap.size _ _ (wq.alloc (.cells #[.int .i64 xc] 3)) from HRQ.out.ext (ext_alloc (Below.refl _ _) _))
        have HEQ := Lib.hid (Ext.trans HE.out HEA.out)
        have HEN := Lib.hid (show Ext w2 (wq.alloc (.cells #[.int .i64 xc] 3)) from ext_alloc HEQ.out _)
        have t0 := cell_of HTA.out (i := 0) rfl
        have HCN := Lib.hid (cell_of (alloc_here wq (.cells #[.int .i64 xc] 3)) (i := 0) rfl)
        have hbn : w2.heap.size ≤ (wq.alloc (.cells #[.int .i64 xc] 3)).heap.size := HEN.out.size
        clear q0 q1 q2 q3 q4 q5 hql d0 d1 d2 d3 d4
        gi_wp2_with (gi_at_builtin; go_loud (refine wpI_appK rfl _ _ (by rfl) w2.heap.size _ _ (by rfl) _ HRN.out xc wq.heap.size (by rfl) HCN.out (by simp) hbn ?_); intro v' w' hr hg hat; have HV := Lib.hid hr; have HB := Lib.hid (show Ext w2 w' from Below.trans HEN.out ((Below.refl w2.heap.size _).grown hg hbn (fun k e => (World.ownsRow.lt HRN.out k e).1))); clear hr hg hat t0)
        go_roundw
        case rel => exact ⟨3, by omega, by go_num, HV.out, HB.out⟩
        case measure => simp [intOf]
    case neg =>
      obtain rfl : k = 3 := by omega
      have hsh := (HE.out.below.block _ (lt_of_block HSH.out)).trans HSH.out
      have s6 := cell_of hsh (i := 6) rfl
      clear hlt hk q0 q1 q2 q3 q4 q5 hql hsh
      gi_wp2_with (fail)
      refine ⟨trivial, callsIn_wide.2 ((xchunk_any _ _ _ _).mono ?_)⟩
      rintro x W3 ⟨rfl, hW3⟩
      have hE3 : Ext wr W3 := by rw [hW3]; exact ext_alloc (ext_alloc (Below.refl _ _) _) _
      have hz3 : W3.heap.size = wr.heap.size + 2 := by rw [hW3]; simp
      have hb3 : W3.heap[wr.heap.size]? = some (.cells #[.slice (some ⟨b, off, none⟩) (3 * m) c] 54 (0, 0)) := by
        rw [hW3]; exact (Below.heap_alloc _ _ _ (by simp)).trans (alloc_here _ _)
      have hb4 : W3.heap[wr.heap.size + 1]? = some (.cells #[.int .i64 3] 3 (0, 0)) := by
        have h := alloc_here (wr.alloc (.cells #[.slice (some ⟨b, off, none⟩) (3 * m) c] 54)) (.cells #[.int .i64 3] 3)
        rw [World.size_alloc] at h
        rw [hW3]; exact h
      have hEw : Ext w W3 := Ext.trans HX2.out (Ext.trans HE.out hE3)
      have hbx : Boxed W3 (w1.heap.size + 1) 54 (.slice none 0 0) := ((Ext.trans HE.out hE3).below.block _ HBX.out.lt).trans HBX.out
      have hro : RowI w2.heap.size u7 [xa, xb, xc] W3 := HR.out.ext hE3
      have HST := chunk_stops 8 wr.heap.size (wr.heap.size + 1) w.heap.size b off m c (by omega) hcap W3 hEw.size hb3 hb4
      clear hW3 d0 d1 d2 d3 d4 s6
      gi_wp2_with (fail)
      have hl12 : w1.heap.size + 3 ≤ wr.heap.size := by have := HSZ.out; omega
      have hblk : ∀ g, u7.ownBlock = some g → g < W3.heap.size := fun g e => hro.blk e
      refine wpIn_rangeFunc_ownH rfl (by omega) (gf := 86) (lb := #[.pointer (some ⟨wr.heap.size, 0, none⟩), .pointer (some ⟨wr.heap.size + 1, 0, none⟩)]) rfl trivial (enters_fn Tryd.func86 (by kernel_rfl) rfl)
        (encs := fun x : Fin m => #[.slice (some ⟨b, off + 3 * x.1, none⟩) 3 3]) HST Kc.trans (Kc.putObj hEw.size (by omega) (by omega)) (Below.refl _ _) (fun _ => rfl)
        (fun ys W => (∃ v, Boxed W (w1.heap.size + 1) 54 v ∧ W.ownsRow W3.heap.size 3 1 v (rdC l (ys.map (·.1))).length ((rdC l (ys.map (·.1))).map (Value.int .i64)) ∧ True) ∧ (RowI w2.heap.size u7 [xa, xb, xc] W ∧ (W3.heap.size ≤ W.heap.size ∧ Below w.heap.size w W)))
        (fun _ _ _ => False)
        (OwnFrom.and (Own.from (holdsRow_own W3.heap.size (w1.heap.size + 1) 54 3 1 (fun (ys : List (Fin m)) => (rdC l (ys.map (·.1))).length) (fun (ys : List (Fin m)) => (rdC l (ys.map (·.1))).map (Value.int .i64)) (fun _ _ => True)) _) (OwnFrom.and (Own.from (rowI_own w2.heap.size u7 [xa, xb, xc]) _) (OwnFrom.and (fun s X Y row hs hg hr => Nat.le_trans hs hg.size) (ownFrom_below (Nat.le_refl _) hEw.size))))
        (fun _ _ _ _ _ hs _ _ => hs)
        ⟨⟨_, hbx, World.ownsRow_nil _ _ _ _, trivial⟩, hro, Nat.le_refl _, hEw⟩
        (fun x a' W => a' = { tmps := #[.agg #[.int .i64 67, .int .i64 xa, .int .i64 xb, .int .i64 xc, .slice (some ⟨b, off, none⟩) (3 * m) c], .pointer (some ⟨w.heap.size, 0, none⟩), .slice none 0 0, .slice none 0 0, .pointer (some ⟨w1.heap.size, 0, none⟩), .bool true, .pointer (some ⟨w1.heap.size + 1, 0, none⟩), u7, u8, u9, u10, .slice (some ⟨b, off + 3 * x.1, none⟩) 3 3, .tuple #[.agg #[.int .i64 4, .int .i64 0, .int .i64 4, .int .i64 0, .int .i64 4, .int .i64 0, .int .i64 3], .bool true], .pointer (some ⟨w.heap.size, 0, none⟩), .int .i64 67, .tuple #[.agg #[.int .i64 4, .int .i64 0, .int .i64 4, .int .i64 0, .int .i64 4, .int .i64 0, .int .i64 3], .bool true], .agg #[.int .i64 4, .int .i64 0, .int .i64 4, .int .i64 0, .int .i64 4, .int .i64 0, .int .i64 3], .bool true, .bool true, .bool false, .pointer (some ⟨w1.heap.size, 0, none⟩), .agg #[.int .i64 4, .int .i64 0], .pointer (some ⟨w1.heap.size, 2, none⟩), .agg #[.int .i64 4, .int .i64 0], .pointer (some ⟨w1.heap.size, 4, none⟩), .agg #[.int .i64 4, .int .i64 0], .slice (some ⟨w1.heap.size + 1 + 1, 0, none⟩) 3 3, .int .i64 3, .int .i64 3, .bool false, u30, u31, u32, u33, u34, u35, u36, u37, u38, u39, u40, u41, u42, u43, u44, u45, u46, u47, u48, u49, u50, u51, u52, u53, u54, u55, u56, u57, u58, .pointer (some ⟨w1.heap.size, 6, none⟩), .int .i64 3, .bool false, .bool false, .bool false, undef, undef, undef, undef, .bool true, .bool true, .pointer (some ⟨w.heap.size, 4, none⟩), .slice (some ⟨b, off, none⟩) (3 * m) c, .func (.func 86) #[] #[.pointer (some ⟨wr.heap.size, 0, none⟩), .pointer (some ⟨wr.heap.size + 1, 0, none⟩)], .slice (some ⟨b, off + 3 * x.1, none⟩) 3 3, undef, undef, undef, undef, undef, undef, undef, undef, undef, undef, undef, undef, undef, undef, undef, undef, undef, undef, undef], defers := [] })
        (fun x a' _ X Y row hs hg hr => hs)
        ?assign ?body ?done ?stop
      case assign =>
        rintro l' ys x W K hI hK
        gi_wp2
        exact hK _ _ ⟨Nat.le_refl _, fun _ _ _ h _ => h⟩ (Kc.refl _ _ _ _) hI rfl
      case body =>
        rintro l' ys ⟨j, hj⟩ a' W hl' ⟨rr, hr⟩ ⟨⟨v, h1, h2, _⟩, h3, h3s, h4⟩ rfl hlt
        have hws := h4.size
        have hlx := HLen.out
        have hcl := rdC_len l (ys.map (·.1))
        rw [List.length_map] at hcl
        have hI := HL.out.below h4
        have cellAt : ∀ k, k < l.length → W.cell? ⟨b, off + k, none⟩ = some (.int .i64 (l.getD k 0)) := fun k hk => by
          obtain ⟨b', o', e', hc⟩ := hI k hk
          have e2 : b = b' ∧ off = o' := by simpa using e'
          obtain ⟨rfl, rfl⟩ := e2
          have e1 : l.getD k 0 = l[k] := by rw [List.getD_eq_getElem?_getD, List.getElem?_eq_getElem hk]; rfl
          rw [e1]; exact hc
        have c0 := cellAt (3 * j) (by omega)
        have c2 := cellAt (3 * j + 2) (by omega)
        rw [← Nat.add_assoc] at c2
        have HF := Lib.hid (show rdC l ((ys ++ [(⟨j, hj⟩ : Fin m)]).map (·.1)) = rdC l (ys.map (·.1)) ++ (if l.getD (3 * j) 0 = 1 then [l.getD (3 * j + 2) 0] else []) from by rw [List.map_append, rdC_app]; simp [rdC])
        have HLN := Lib.hid (show (rdC l (ys.map (·.1))).length ≤ 1000000000 from by omega)
        clear cellAt hI hcl
        generalize l.getD (3 * j) 0 = v0 at *
        generalize l.getD (3 * j + 2) 0 = v2 at *
        generalize rdC l (ys.map (·.1)) = L1 at *
        have H1 := Lib.hid h1
        have H2 := Lib.hid (show RowI W3.heap.size v L1 W from h2)
        have H3 := Lib.hid h3
        have H4 := Lib.hid h4
        clear h1 h2 h3 h4
        by_cases hk : v0 = 1
        · subst hk
          have HF2 := Lib.hid (show rdC l ((ys ++ [(⟨j, hj⟩ : Fin m)]).map (·.1)) = L1 ++ [v2] from HF.out)
          clear HF
          gi_wp2_with (fail)
          refine wpIn_region_tail (l1 := [_, _, _, _, _]) (l2 := [_, _]) (by kernel_rfl) Ext (fun W => Below.refl _ W) (fun W => show Below W.heap.size W { W with drawn := W.drawn + 1 } from ⟨rfl, rfl, rfl, Nat.le_refl _, fun _ _ => rfl⟩) Ext.trans
            (fun i s X => match i with
              | 0 => s 0 = v
              | 1 => s 1 = .slice (some ⟨b, off + 3 * j, none⟩) 3 3
              | 2 => s 2 = .pointer (some ⟨b, off + 3 * j + 2, none⟩)
              | 3 => s 3 = .int .i64 v2
              | 4 => ∃ g, s 4 = .slice (some ⟨g, 0, none⟩) 1 1 ∧ X.heap[g]? = some (.cells #[.int .i64 v2] 3 (0, 0))
              | _ => True)
            (fun i => [i])
            (by
              intro i s s' X X' h hs hE
              have hs := hs i (by simp)
              match i, h, hs with
              | 0, h, hs => exact hs.trans h
              | 1, h, hs => exact hs.trans h
              | 2, h, hs => exact hs.trans h
              | 3, h, hs => exact hs.trans h
              | 4, ⟨g, h1, h2⟩, hs => exact ⟨g, hs.trans h1, (hE.below.block _ (lt_of_block h2)).trans h2⟩
              | i + 5, h, hs => exact trivial)
            (by kernel_rfl) (by kernel_rfl) (by kernel_rfl) 93 rfl (by kernel_rfl) (by kernel_rfl) ?_ ?_
          · intro i op ho a' X hA
            have bx := ((hA.rel.below.block _ H1.out.lt).trans H1.out : X.heap[w1.heap.size + 1]? = _)
            have b0 := cell_of bx (i := 0) rfl
            have cc := cell_ext c2 hA.rel
            match i, ho with
            | 0, ho =>
              obtain rfl := Option.some.inj ho
              have e1 : a'.eval (.tmp 6) = .pointer (some ⟨w1.heap.size + 1, 0, none⟩) := hA.keep 6 (by kernel_rfl)
              refine GoesI.value v rfl (by intro c hc; cases hc) ?_ (Below.refl _ _) (fun s h1 h2 => h1 rfl)
              simp only [execOp, e1]
              simp [go_sem, b0]
            | 1, ho =>
              obtain rfl := Option.some.inj ho
              have e1 : a'.eval (.tmp 11) = .slice (some ⟨b, off + 3 * j, none⟩) 3 3 := hA.keep 11 (by kernel_rfl)
              refine GoesI.value (.slice (some ⟨b, off + 3 * j, none⟩) 3 3) rfl (by intro c hc; cases hc) ?_ (Below.refl _ _) (fun s h1 h2 => h1 rfl)
              simp only [execOp, e1]
              simp [go_sem]
            | 2, ho =>
              obtain rfl := Option.some.inj ho
              have e1 : a'.eval (.tmp 84) = .slice (some ⟨b, off + 3 * j, none⟩) 3 3 := (sv_dst (l := _) rfl).symm.trans (hA.new 1 (by decide) (by kernel_rfl))
              refine GoesI.value (.pointer (some ⟨b, off + 3 * j + 2, none⟩)) rfl (by intro c hc; cases hc) ?_ (Below.refl _ _) (fun s h1 h2 => h1 rfl)
              simp only [execOp, e1]
              simp [go_sem]
            | 3, ho =>
              obtain rfl := Option.some.inj ho
              have e1 : a'.eval (.tmp 85) = .pointer (some ⟨b, off + 3 * j + 2, none⟩) := (sv_dst (l := _) rfl).symm.trans (hA.new 2 (by decide) (by kernel_rfl))
              refine GoesI.value (.int .i64 v2) rfl (by intro c hc; cases hc) ?_ (Below.refl _ _) (fun s h1 h2 => h1 rfl)
              simp only [execOp, e1]
              simp [go_sem, cc]
            | 4, ho =>
              obtain rfl := Option.some.inj ho
              have e1 : a'.eval (.tmp 86) = .int .i64 v2 := (sv_dst (l := _) rfl).symm.trans (hA.new 3 (by decide) (by kernel_rfl))
              refine GoesI.value (.slice (some ⟨X.heap.size, 0, none⟩) 1 1) (W' := X.alloc (.cells #[.int .i64 v2] 3)) rfl (by intro c hc; cases hc) ?_ ((Below.refl _ X).alloc (Nat.le_refl _) _) (fun s h1 h2 => ⟨X.heap.size, h1 rfl, alloc_here _ _⟩)
              simp only [execOp]
              have e2 : a'.tmps[86]?.getD undef = .int .i64 v2 := by rw [← e1]; simp [Act.eval, Array.getD_eq_getD_getElem?]
              simp [go_sem, e2]
            | i + 5, ho => cases ho
          · intro vs w4 hvs hG hΦ
            obtain ⟨y0, y1, y2, y3, y4, rfl⟩ : ∃ y0 y1 y2 y3 y4, vs = [y0, y1, y2, y3, y4] := by
              match vs, hvs with
              | [y0, y1, y2, y3, y4], _ => exact ⟨_, _, _, _, _, rfl⟩
            have e0 : y0 = v := hΦ 0 (by decide)
            obtain ⟨g, e4, hg4⟩ : ∃ g, y4 = .slice (some ⟨g, 0, none⟩) 1 1 ∧ w4.heap[g]? = some (.cells #[.int .i64 v2] 3 (0, 0)) := hΦ 4 (by decide)
            subst e0 e4
            have HG := Lib.hid hG
            have HR4 := Lib.hid (H2.out.ext hG)
            have HC4 := Lib.hid (cell_of hg4 (i := 0) rfl)
            have hb4 : W3.heap.size ≤ w4.heap.size := Nat.le_trans h3s hG.size
            clear hΦ hvs hG hg4 c0 c2
            simp only [putAll, Act.put, List.setIfInBounds_toArray, List.set_cons_succ, List.set_cons_zero]
            refine wpI_appK rfl _ _ (by rfl) W3.heap.size _ L1 (by rfl) w4 HR4.out v2 g (by rfl) HC4.out HLN.out hb4 ?_
            intro v' w' hr' hg' hat
            obtain ⟨a1, m1, c1, rfl⟩ := hr'.sl
            obtain ⟨k1, k2, k3, k4, k5, k6, k7, k8⟩ := rh_step (n₀ := w.heap.size) (B1 := wr.heap.size) (B2 := wr.heap.size + 1) H1.out H2.out H3.out hblk HG.out hr' hg' hws hEw.size (by omega) (by omega) (by omega) (by omega) (by omega)
            have HK2 := Lib.hid k2
            have HK3 := Lib.hid k3
            have HJ := Lib.hid (And.intro k4 (And.intro k5 (And.intro k6 (And.intro k7 k8))))
            have hbc := k1.cell
            have hbf := k1.frozen
            clear k1 k2 k3 k4 k5 k6 k7 k8 hr' hg' hat
            gi_wp2
            exact ⟨HK2.out _, HK3.out, ⟨_, HJ.out.1, by rw [HF2.out]; exact HJ.out.2.1, trivial⟩, HJ.out.2.2.1, Nat.le_trans h3s HJ.out.2.2.2.1, Below.trans H4.out HJ.out.2.2.2.2⟩
        · have hk1 : (v0 == 1) = false := by simpa using hk
          have HF2 := Lib.hid (show rdC l ((ys ++ [(⟨j, hj⟩ : Fin m)]).map (·.1)) = L1 from by rw [HF.out, if_neg hk, List.append_nil])
          clear hk HF
          gi_wp2
          exact ⟨KeepsFrom.refl _ _, Kc.refl _ _ _ _, ⟨_, H1.out, by rw [HF2.out]; exact H2.out, trivial⟩, H3.out, h3s, H4.out⟩
      case done =>
        rintro D ys W hD hys ⟨⟨v, h1, h2, _⟩, h3, h3s, h4⟩ hK
        subst hys
        rw [fin_range] at h2
        have hws := h4.size
        have hcl := rdC_len l (List.range m)
        rw [List.length_range] at hcl
        have CA := Lib.hid (asc_row (base := W3.heap.size) (v := v) (l := rdC l (List.range m)) (w := W) h2 (by omega))
        have hc := h1.cell
        have H3 := Lib.hid h3
        have H4 := Lib.hid h4
        have HK := Lib.hid hK
        clear h1 h2 h3 h4 hK
        gi_wp2_with (fail)
        refine ⟨trivial, callsIn_wide.2 (CA.out.mono ?_)⟩
        rintro x W4 ⟨v1, rfl, hr1, hE4⟩
        have HK4 := Lib.hid ((hE4.below.block D (lt_of_block HK.out)).trans HK.out)
        have CB := Lib.hid (asc_row (H3.out.ext hE4) (by simp))
        have HR1 := Lib.hid (hr1.lw hws)
        have HE4 := Lib.hid (Below.trans H4.out (hE4.mono hws))
        clear hc hr1 hE4
        gi_wp2_with (fail)
        refine ⟨trivial, callsIn_wide.2 (CB.out.mono ?_)⟩
        rintro x W5 ⟨v2, rfl, hr2, hE5⟩
        have hK5 := (hE5.below.block D (lt_of_block HK4.out)).trans HK4.out
        have HR2 := Lib.hid (hr2.lw HE4.out.size)
        have HR15 := Lib.hid (HR1.out.ext hE5)
        have HE5 := Lib.hid (Below.trans HE4.out (hE5.mono HE4.out.size))
        clear hr2 hE5
        gi_wp2
        refine ⟨by simp, .inl ⟨_, _, rfl, run_takeDeferred hK5, ?_⟩⟩
        refine ⟨.tuple #[v1, v2], by simp [results, Tryd.f27, go_sem], v1, v2, rfl, rowI_own _ _ _ () _ _ (some D) HR15.out (grownBy_putObj' _ D (.deferred none)) (fun r e => by cases e; exact ⟨_, hK5, rfl⟩), rowI_own _ _ _ () _ _ (some D) HR2.out (grownBy_putObj' _ D (.deferred none)) (fun r e => by cases e; exact ⟨_, hK5, rfl⟩), HE5.out.trans (belowK_b (w := w) (Nat.le_refl _) _ D _ _ (by omega) hK5 rfl rfl)⟩
      case stop =>
        rintro D cd ys W hD hys h hK
        exact h.elim
end Go.Proofs.YtfkjokbhnblndaaDoor

namespace Go.Proofs.YtfkjokbhnblndaaDoor
open Go.RowKit
set_option linter.unusedVariables false
set_option linter.unusedSimpArgs false

theorem mem_compact_of {l : List Int} {x : Int} (h : x ∈ Lib.compact l) : x ∈ l := by
  unfold Lib.compact Lib.compactUpTo at h
  obtain ⟨j, hj, rfl⟩ := List.mem_map.1 h
  have hj2 := List.mem_range.1 (List.mem_filter.1 hj).1
  simp [hj2]
theorem mem_compact {l : List Int} {x : Int} (h : x ∈ l) : x ∈ Lib.compact l := by
  obtain ⟨i, hi, hx⟩ := List.getElem_of_mem h
  have key : ∀ n, ∀ j (hj : j < l.length), j ≤ n → l[j] = x → x ∈ Lib.compact l := by
    intro n
    induction n with
    | zero =>
      intro j hj hjn e
      obtain rfl : j = 0 := by omega
      unfold Lib.compact Lib.compactUpTo
      refine List.mem_map.2 ⟨0, List.mem_filter.2 ⟨List.mem_range.2 hj, by simp [Lib.keeps]⟩, by simp [hj, e]⟩
    | succ n ih =>
      intro j hj hjn e
      by_cases h0 : j = 0
      · exact ih j hj (by omega) e
      by_cases hp : l[j - 1]'(by omega) = x
      · exact ih (j - 1) (by omega) (by omega) hp
      · unfold Lib.compact Lib.compactUpTo
        refine List.mem_map.2 ⟨j, List.mem_filter.2 ⟨List.mem_range.2 hj, ?_⟩, by simp [hj, e]⟩
        simp only [Lib.keeps, decide_eq_true_eq]
        refine .inr ?_
        have h1 : j - 1 < l.length := by omega
        simp [hj, h1, e]
        exact fun e2 => hp e2.symm
  exact key i i hi (Nat.le_refl _) hx
theorem sorted_compact {l : List Int} (h : l.Pairwise (· ≤ ·)) : (Lib.compact l).Pairwise (· ≤ ·) := by
  unfold Lib.compact Lib.compactUpTo
  refine List.pairwise_map.2 ?_
  have hr : ((List.range l.length).filter (Lib.keeps l.toArray)).Pairwise (· < ·) := (List.pairwise_lt_range).filter _
  refine hr.imp_of_mem ?_
  intro a b ha hb hab
  have ha2 := List.mem_range.1 (List.mem_filter.1 ha).1
  have hb2 := List.mem_range.1 (List.mem_filter.1 hb).1
  simp only [List.getElem!_toArray]
  simp [ha2, hb2]
  exact List.pairwise_iff_getElem.1 h a b ha2 hb2 hab
theorem mem_asc {l : List Int} {x : Int} : x ∈ asc l ↔ x ∈ l ∧ x ≠ -1 := by
  unfold asc
  constructor
  · intro h
    have h1 := mem_compact_of h
    rw [List.mem_mergeSort] at h1
    unfold delI at h1
    have h2 := List.mem_filter.1 h1
    exact ⟨h2.1, by simpa using h2.2⟩
  · rintro ⟨h1, h2⟩
    refine mem_compact ?_
    rw [List.mem_mergeSort]
    exact List.mem_filter.2 ⟨h1, by simpa using h2⟩
theorem sorted_asc (l : List Int) : (asc l).Pairwise (· ≤ ·) := by
  unfold asc
  refine sorted_compact ?_
  have h := List.pairwise_mergeSort (le := fun (x y : Int) => decide (x ≤ y)) (by intro a b c h1 h2; simp at h1 h2 ⊢; omega) (by intro a b; simp; omega) (delI (fun n => n == -1) l)
  exact h.imp (by intro a b hab; simpa using hab)

theorem lookup_mem {α : Type} : ∀ (t : List (Int × α)) {k : Int} {s : α}, t.lookup k = some s → (k, s) ∈ t
  | [], k, s, h => by simp at h
  | (a, b) :: t, k, s, h => by
    rw [List.lookup_cons] at h
    split at h
    · rename_i e
      cases h
      have : k = a := by simpa using e
      rw [this]; simp
    · exact List.mem_cons_of_mem _ (lookup_mem t h)
theorem shp_all (P : Int → Sh → Bool) (h : shTab.all (fun q => P q.1 q.2) = true) {op : Int} {s : Sh} (hs : shp op = some s) : P op s = true :=
  List.all_eq_true.1 h (op, s) (lookup_mem shTab hs)
theorem inB_of {p : Pg} {f : Fn} {o : Opd} {n : Int} (h : ckOpd p f o n = 0) (ho : o.what = 3 ∨ o.what = 4) : 0 ≤ n ∧ n < f.regs := by
  have key : inB n 0 (f.regs - 1) = true := by
    cases hi : inB n 0 (f.regs - 1) with
    | true => rfl
    | false =>
      unfold ckOpd at h
      rcases ho with e | e <;> simp [e, hi] at h
  have := inB_iff.1 key
  omega
theorem inB_of5 {p : Pg} {f : Fn} {o : Opd} {n : Int} (h : ckOpd p f o n = 0) (ho : o.what = 5) (hn : n ≠ -1) : 0 ≤ n ∧ n < f.regs := by
  have key : inB n (-1) (f.regs - 1) = true := by
    cases hi : inB n (-1) (f.regs - 1) with
    | true => rfl
    | false =>
      unfold ckOpd at h
      simp [ho, hi] at h
  have := inB_iff.1 key
  omega
theorem tgtV {p : Pg} {f : Fn} {o : Opd} {n : Int} (h : ckOpd p f o n = 0) (ho : o.what = 6 ∨ o.what = 7) : 0 ≤ n ∧ n < f.code.length := by
  have key : inB n 0 (f.code.length - 1) = true := by
    cases hi : inB n 0 ((f.code.length : Int) - 1) with
    | true => rfl
    | false =>
      unfold ckOpd at h
      rcases ho with e | e <;> simp [e, hi] at h
  have := inB_iff.1 key
  omega
theorem rdO_ok {p : Pg} {f : Fn} {o : Opd} {n e : Int} (h : ckOpd p f o n = 0) (he : e ∈ rdO o n) (hn : e ≠ -1) : 0 ≤ e ∧ e < f.regs := by
  unfold rdO at he
  split at he
  · rename_i hw
    rcases List.mem_singleton.1 he with rfl
    rcases hw with h3 | h5
    · exact inB_of h (.inl h3)
    · exact inB_of5 h h5 hn
  · simp at he
theorem wrO_ok {p : Pg} {f : Fn} {o : Opd} {n e : Int} (h : ckOpd p f o n = 0) (he : e ∈ wrO o n) : 0 ≤ e ∧ e < f.regs := by
  unfold wrO at he
  split at he
  · rename_i hw
    rcases List.mem_singleton.1 he with rfl
    exact inB_of h (.inr hw)
  · simp at he
/-- what lies outside of the registers -/
def outB (n : Int) (x : Int) : Bool := decide (x < 0) || decide (n ≤ x)
theorem outB_any {n : Int} {l : List Int} (h : ∀ e ∈ l, 0 ≤ e ∧ e < n) : l.any (outB n) = false := by
  rw [List.any_eq_false]
  intro e he
  have := h e he
  simp [outB]
  omega
theorem args_ok {p : Pg} {f : Fn} {x : Ins} {w : Int} (h : ckArgs p f w x = 0) (hw : w = 1 ∨ w = 2) : ∀ e ∈ x.args, 0 ≤ e ∧ e < f.regs := by
  intro e he
  have h1 : ckRegs f x.args (if w = 1 then ((p.fs[x.b.toNat]?).map Fn.params).getD 0 else 2) = 0 := by
    unfold ckArgs at h
    rcases hw with rfl | rfl <;> simpa using h
  generalize (if w = 1 then ((p.fs[x.b.toNat]?).map Fn.params).getD 0 else 2) = want at *
  unfold ckRegs at h1
  split at h1
  · cases h1
  · split at h1
    · cases h1
    · rename_i h2
      have h3 : regOut f e = false := by
        cases hb : regOut f e with
        | false => rfl
        | true => exact absurd (List.any_eq_true.2 ⟨e, he, hb⟩) h2
      unfold regOut at h3
      have h4 : inB e 0 (f.regs - 1) = true := by simpa using h3
      have := inB_iff.1 h4
      omega
theorem reads_ok {p : Pg} {f : Fn} {x : Ins} {s : Sh} (h : InsOk p f x s) : ∀ e ∈ asc (inL s x), 0 ≤ e ∧ e < f.regs := by
  intro e he
  obtain ⟨h1, h2⟩ := mem_asc.1 he
  unfold inL inS at h1
  simp only [List.mem_append] at h1
  rcases h1 with ((h1 | h1) | h1) | h1
  · exact rdO_ok h.a h1 h2
  · exact rdO_ok h.b h1 h2
  · exact rdO_ok h.c h1 h2
  · split at h1
    · rename_i hw; exact args_ok h.args hw e h1
    · simp at h1
theorem writes_ok {p : Pg} {f : Fn} {x : Ins} {s : Sh} (h : InsOk p f x s) : ∀ e ∈ asc (outL s x), 0 ≤ e ∧ e < f.regs := by
  intro e he
  obtain ⟨h1, h2⟩ := mem_asc.1 he
  unfold outL outS at h1
  simp only [List.mem_append] at h1
  rcases h1 with (h1 | h1) | h1
  · exact wrO_ok h.a h1
  · exact wrO_ok h.b h1
  · exact wrO_ok h.c h1
/-- a select: as many numbers as three times its cases, and what these read -/
theorem sel_ok {p : Pg} {f : Fn} {x : Ins} {s : Sh} (h : InsOk p f x s) (hs : s.args = 3) : ∃ m, x.args.length = 3 * m ∧ 1 ≤ m ∧ m ≤ 6 ∧ ∀ e ∈ asc (rdC x.args (List.range m)), 0 ≤ e ∧ e < f.regs := by
  have h1 : ckCases p f x.args = 0 := by
    have := h.args
    unfold ckArgs at this
    rw [hs] at this
    simpa using this
  unfold ckCases at h1
  split at h1
  · cases h1
  · rename_i hl
    refine ⟨x.args.length / 3, by omega, by omega, by omega, ?_⟩
    intro e he
    obtain ⟨h2, h3⟩ := mem_asc.1 he
    unfold rdC at h2
    obtain ⟨j, hj, hej⟩ := List.mem_flatMap.1 h2
    have hj := List.mem_range.1 hj
    split at h1
    · exact absurd h1 ‹_›
    · rename_i hf
      have hz := fstE_all (Classical.not_not.1 hf) j hj
      split at hej
      · rename_i h1'
        rcases List.mem_singleton.1 hej with rfl
        unfold ckCase at hz
        rw [h1', if_neg (by decide), if_pos (.inl rfl)] at hz
        split at hz
        · exact absurd hz ‹_›
        · split at hz
          · cases hz
          · rename_i hq
            have hb : inB (x.args.getD (3 * j + 2) 0) 0 (f.regs - 1) = true := by
              cases hb : inB (x.args.getD (3 * j + 2) 0) 0 (f.regs - 1) with
              | true => rfl
              | false => exact absurd ⟨rfl, hb⟩ hq
            have := inB_iff.1 hb
            omega
      · simp at hej
theorem nxt_ok {p : Pg} {i : Nat} {f : Fn} (h : FnOk p i f) {j : Nat} (hj : j < f.code.length) : ∀ e ∈ nxI f.code.length f.code[j] (j : Int), 0 ≤ e ∧ e < f.code.length := by
  obtain ⟨s, ok⟩ := h.ins hj
  generalize f.code[j] = x at *
  intro e he
  obtain ⟨h1, h2⟩ := mem_asc.1 he
  obtain ⟨h3, h4⟩ := List.mem_filter.1 h1
  have h5 : e < f.code.length := by simpa using h4
  refine ⟨?_, h5⟩
  unfold nxL at h3
  split at h3
  · simp at h3
  split at h3
  · rename_i h13
    have h6 := ok.shp
    rw [h13] at h6
    have h7 : s.a.what = 6 := by have h8 := Option.some.inj h6; rw [← h8]
    rcases List.mem_singleton.1 h3 with rfl
    exact (tgtV ok.a (.inl h7)).1
  split at h3
  · rename_i h14
    have h6 := ok.shp
    rw [h14] at h6
    have h7 : s.b.what = 6 := by have h8 := Option.some.inj h6; rw [← h8]
    simp only [List.mem_cons, List.not_mem_nil, or_false] at h3
    rcases h3 with rfl | rfl
    · omega
    · exact (tgtV ok.b (.inl h7)).1
  split at h3
  · rename_i h35
    have h6 := ok.shp
    rw [h35] at h6
    have h7 : s.c.what = 7 := by have h8 := Option.some.inj h6; rw [← h8]
    simp only [List.mem_cons, List.not_mem_nil, or_false] at h3
    rcases h3 with rfl | rfl
    · omega
    · exact (tgtV ok.c (.inr h7)).1
  · rcases List.mem_singleton.1 h3 with rfl
    omega
theorem nxt_has {n : Nat} {x : Ins} {j : Nat} (h : ¬ ((x.op = 16 ∨ x.op = 21) ∨ x.op = 13)) (hj : (j : Int) + 1 < n) : (nxI n x (j : Int)).any (fun y => y == (j : Int) + 1) = true := by
  rw [List.any_eq_true]
  refine ⟨(j : Int) + 1, ?_, by simp⟩
  refine mem_asc.2 ⟨List.mem_filter.2 ⟨?_, by simp; omega⟩, by omega⟩
  unfold nxL
  rw [if_neg (fun e => h (.inl e)), if_neg (fun e => h (.inr e))]
  split
  · simp
  · split <;> simp
theorem nxI_len (n : Nat) (x : Ins) (pc : Int) : (nxI n x pc).length ≤ 2 := by
  unfold nxI
  refine Nat.le_trans (asc_len _) (Nat.le_trans (delI_len _ _) ?_)
  unfold nxL
  repeat' split
  all_goals simp
theorem nxP_at {p : Pg} (h : ckPg p = 0) {k j : Nat} (hk : k < p.fs.length) (hj : j < (p.fs[k]).code.length) : nxP p (k : Int) (j : Int) = nxI (p.fs[k]).code.length (p.fs[k]).code[j] (j : Int) := by
  have hg : p.fs.getD k ⟨[], 0, 0, 0, false, []⟩ = p.fs[k] := by simp [List.getD, hk]
  unfold nxP
  rw [Int.toNat_natCast, Int.toNat_natCast, hg, if_pos ⟨h, by omega, by omega, by omega, by omega⟩, insAt_eq hj]
/-- which operations are local, which can be seen, which can be cancelled -/
def locB (k : Int) : Bool := decide (1 ≤ k ∧ k ≤ 21)
def cancB (k : Int) : Bool := [38, 40, 57, 60, 63, 64, 65, 67, 68, 70, 72, 74].any (fun x => x == k)
theorem loc_vis {op : Int} {s : Sh} (h : shp op = some s) : (locB op == decide (30 ≤ op)) = false := by
  have := shp_all (fun k _ => !(locB k == decide (30 ≤ k))) (by decide) h
  simpa using this
theorem loc_canc {op : Int} {s : Sh} (h : shp op = some s) : (cancB op && locB op) = false := by
  have := shp_all (fun k _ => !(cancB k && locB k)) (by decide) h
  cases h1 : cancB op <;> cases h2 : locB op <;> simp_all
theorem outS_le (s : Sh) (x : Ins) : (asc (outL s x)).length ≤ 3 := Nat.le_trans (asc_len _) (outS_len s x 3)
theorem asc_mono (l : List Int) : ∀ i (h : i + 1 < (asc l).length), (asc l)[i]'(by omega) ≤ (asc l)[i + 1] := fun i h => List.pairwise_iff_getElem.1 (sorted_asc l) i (i + 1) (by omega) h (by omega)
theorem sel_shape {op : Int} {s : Sh} (h : shp op = some s) (h3 : s.args = 3) : op = 67 ∧ s = ⟨⟨4, 0⟩, ⟨4, 0⟩, ⟨4, 0⟩, 3⟩ := by
  have := shp_all (fun k s => decide (s.args = 3 → k = 67 ∧ s = ⟨⟨4, 0⟩, ⟨4, 0⟩, ⟨4, 0⟩, 3⟩)) (by decide) h
  exact of_decide_eq_true this h3
theorem regs_ok {p : Pg} {i : Nat} {f : Fn} (h : FnOk p i f) : ¬ f.regs < f.params ∧ ¬ 32 < f.regs ∧ (i = 0 → f.params = 0) := by
  have h1 := inB_iff.1 h.params
  have h2 := inB_iff.1 h.regs
  exact ⟨by omega, by omega, fun e => by have := (h.main e).1; omega⟩
end Go.Proofs.YtfkjokbhnblndaaDoor

namespace Go.Proofs.YtfkjokbhnblndaaDoor
open Go.RowKit
set_option linter.unusedVariables false
set_option linter.unusedSimpArgs false

set_option maxHeartbeats 1000000 in
theorem Visible_any (op : Int) (s : Sh) (hs : shp op = some s) (w : World) : Gives Tryd.prog 29 #[.int .i64 op] w (.bool (decide (30 ≤ op))) := by
  unfold Gives
  have KS := Lib.hid (fun W => shapeOf_some op s hs W)
  clear hs
  by_cases h : 30 ≤ op
  · rw [decide_eq_true h]
    go_enter Tryd.func29, Tryd.ntmps29
    go_wp2_with fail
    refine (KS.out _).mono ?_
    intro w1 hE
    have HE := Lib.hid (show Ext w w1 from hE)
    have HA := Lib.hid (fun o => (show Ext w (w1.alloc o) from ext_alloc HE.out o))
    clear hE
    go_wp2
    go_ret
    exact ⟨by first | rfl | (simp; done) | (simp; omega), HA.out _⟩
  · rw [decide_eq_false h]
    go_enter Tryd.func29, Tryd.ntmps29
    go_wp2_with fail
    refine (KS.out _).mono ?_
    intro w1 hE
    have HE := Lib.hid (show Ext w w1 from hE)
    have HA := Lib.hid (fun o => (show Ext w (w1.alloc o) from ext_alloc HE.out o))
    clear hE
    go_wp2
    go_ret
    exact ⟨by first | rfl | (simp; done) | (simp; omega), HA.out _⟩
theorem Cancel_any (op : Int) (w : World) : Gives Tryd.prog 30 #[.int .i64 op] w (.bool (cancB op)) := by
  unfold Gives
  have K := Lib.hid (Contains1_any [38, 40, 57, 60, 63, 64, 65, 67, 68, 70, 72, 74] op (some ⟨w.heap.size, 0, none⟩) 12 _ (ints_alloc w _ 3) (by decide))
  have HB := Lib.hid (show [38, 40, 57, 60, 63, 64, 65, 67, 68, 70, 72, 74].any (fun x => x == op) = cancB op from rfl)
  generalize cancB op = r at *
  go_enter Tryd.func30, Tryd.ntmps30
  go_wp2_with fail
  refine K.out.mono ?_
  rintro e w1 ⟨rfl, rfl⟩
  rw [HB.out]
  go_wp2
  go_ret
  exact ⟨rfl, (Below.refl _ w).alloc (Nat.le_refl _) _⟩
theorem less_g (x y : Int) (w : World) : Gives Tryd.prog 62 #[.int .i64 x, .int .i64 y] w (.bool (decide (x < y))) :=
  (Tryd.cmp_Less_int2 x y w).mono (by rintro e w' ⟨rfl, rfl⟩; exact ⟨rfl, Below.refl _ _⟩)
set_option maxHeartbeats 1000000 in
theorem IsSorted_any (l : List Int) (a : Option Addr) (c : Nat) (w : World) (hl : l.length ≤ 1000000000) (hA : IntsAt w a l) (hs : ∀ i (h : i + 1 < l.length), l[i] ≤ l[i + 1]) : Gives Tryd.prog 32 #[.slice a l.length c] w (.bool true) := by
  unfold Gives
  have HA := Lib.hid hA
  have HS := Lib.hid hs
  clear hA hs
  go_enter Tryd.func32, Tryd.ntmps32
  go_wp2
  go_loopw [3] (fun i wr => ∃ k : Int, -1 ≤ k ∧ k < l.length ∧ i = .int .i64 k ∧ Ext w wr) (fun i _ => (intOf i + 1).toNat)
  case atStart => exact ⟨(l.length : Int) - 1, by omega, by omega, by go_num, Below.refl _ _⟩
  case round =>
    obtain ⟨k, hk0, hk1, rfl, hE⟩ := hrel
    by_cases hlt : 0 < k
    · obtain ⟨j, rfl⟩ : ∃ j : Nat, k = (j : Int) + 1 := ⟨(k - 1).toNat, by omega⟩
      have hj : j + 1 < l.length := by omega
      have HSJ := HS.out j hj
      obtain ⟨b, off, rfl, c1⟩ := (HA.out.below hE) (j + 1) hj
      obtain ⟨b', off', e, c0⟩ := (HA.out.below hE) j (by omega)
      cases e
      have HE := Lib.hid hE
      have KL := Lib.hid (fun W => less_g (l[j + 1]) (l[j]) W)
      have hd : decide (l[j + 1] < l[j]) = false := decide_eq_false (by omega)
      rw [hd] at KL
      have hjx : ((j : Int) + 1).toNat = j + 1 := by omega
      clear hd HSJ hE
      generalize l[j + 1] = x at *
      generalize l[j] = y at *
      go_wp2_with fail
      have u0 := fun U : Up _ => Up.cell c0 U
      have u1 := fun U : Up _ => Up.cell c1 U
      refine wp_region_up (by kernel_rfl) (by kernel_rfl) ?_
      repeat (go_big_quiet_step (first | (go_at_call 62; refine Up.callE (fun W hW => KL.out W) ?_; with_reducible rfl)))
      refine wpQuiet_nil ?_
      rintro _ ⟨U, rfl⟩
      have HE2 := Lib.hid (Ext.trans HE.out U.ext)
      generalize U.W = w4 at *
      clear u0 u1 c0 c1
      go_wp2
      go_roundw
      case rel => exact ⟨(j : Int), by omega, by omega, by go_num, HE2.out⟩
      case measure => simp [intOf]; omega
    · have HE := Lib.hid hE
      clear hE
      go_wp2
      go_ret
      exact ⟨rfl, HE.out⟩
theorem valid1_any (n regs : Int) (g : Nat) (w : World) (hg : w.cell? ⟨g, 2, none⟩ = some (.int .i64 regs)) : Gives Tryd.prog 28 #[.int .i64 n, .pointer (some ⟨g, 0, none⟩)] w (.bool (outB regs n)) := by
  unfold Gives outB
  by_cases h : n < 0
  · rw [decide_eq_true h]
    go_enter Tryd.func28, Tryd.ntmps28
    go_wp2
    go_ret
    exact ⟨by first | rfl | simp, Below.refl _ _⟩
  · rw [decide_eq_false h]
    go_enter Tryd.func28, Tryd.ntmps28
    go_wp2
    go_ret
    exact ⟨by first | rfl | simp, Below.refl _ _⟩
theorem valid2_any (n : Int) (g m c : Nat) (ca : Option Addr) (w : World) (hm : m ≤ 17592186044416) (hg : w.cell? ⟨g, 5, none⟩ = some (.slice ca m c)) : Gives Tryd.prog 34 #[.int .i64 n, .pointer (some ⟨g, 0, none⟩)] w (.bool (outB (m : Int) n)) := by
  unfold Gives outB
  by_cases h : n < 0
  · rw [decide_eq_true h]
    go_enter Tryd.func34, Tryd.ntmps34
    go_wp2
    go_ret
    exact ⟨by first | rfl | simp, Below.refl _ _⟩
  · rw [decide_eq_false h]
    go_enter Tryd.func34, Tryd.ntmps34
    go_wp2
    go_ret
    exact ⟨by first | rfl | simp, Below.refl _ _⟩
end Go.Proofs.YtfkjokbhnblndaaDoor

namespace Go.Proofs.YtfkjokbhnblndaaDoor
open Go.RowKit
set_option linter.unusedVariables false
set_option linter.unusedSimpArgs false

theorem Regs_any {p : Pg} (hv : Valid p) {i : Nat} (hi : i < p.fs.length) {j : Nat} (hj : j < (p.fs[i]).code.length) (y : Option Addr) (c : Nat) :
    ∃ R1 R2 : List Int, (∀ W, IntsAt W y ((p.fs[i]).code[j]).args → ((p.fs[i]).code[j]).args.length ≤ c → Calls Tryd.prog 27 #[IV (p.fs[i]).code[j] y c] W (RetRR W R1 R2)) ∧ R1.any (outB (p.fs[i]).regs) = false ∧ R2.any (outB (p.fs[i]).regs) = false ∧
      (∀ k (h : k + 1 < R1.length), R1[k] ≤ R1[k + 1]) ∧ (∀ k (h : k + 1 < R2.length), R2[k] ≤ R2[k + 1]) ∧ R2.length ≤ 3 ∧ R1.length ≤ 1000 := by
  have hf := hv.fn hi
  obtain ⟨s, ok⟩ := hf.ins hj
  have hal := args_len hv ok.args
  generalize p.fs[i] = f at *
  generalize f.code[j] = x at *
  have hw := writes_ok ok
  by_cases h3 : s.args = 3
  · obtain ⟨m, h1, h2, h4, h5⟩ := sel_ok ok h3
    obtain ⟨h6, rfl⟩ := sel_shape ok.shp h3
    obtain ⟨op, xa, xb, xc, l⟩ := x
    dsimp only at h1 h6 hal hw h5
    subst h6
    refine ⟨asc (rdC l (List.range m)), asc [xa, xb, xc], ?_, outB_any h5, outB_any hw, asc_mono _, asc_mono _, Nat.le_trans (asc_len _) (by simp), Nat.le_trans (asc_len _) (Nat.le_trans (rdC_len _ _) (by simp; omega))⟩
    intro W hI hc
    obtain ⟨b, off, e, _⟩ := hI 0 (by dsimp only; omega)
    subst e
    exact Registers_67 xa xb xc l b off c m W hI h1 h2 h4 hc
  · refine ⟨asc (inL s x), asc (outL s x), fun W hI hc => Registers_gen x s y c W ok.shp h3 hI (by omega), outB_any (reads_ok ok), outB_any hw, asc_mono _, asc_mono _, outS_le s x, Nat.le_trans (asc_len _) ?_⟩
    unfold inL
    rw [List.length_append]
    have := inS_len s x 3
    split
    · omega
    · simp; omega
end Go.Proofs.YtfkjokbhnblndaaDoor

