/- The statement ProgramNextCardSaid: for every input the law returns true, and the arguments read as before; the tables of the library that it lists are tied to the text. The frame round the walk of the law. (With it: Slices of integers of the call's own, to which it appends (the part of XApp that knows no function).; slices.DeleteFunc of integers, with a closure.; program.ascending.; program.Next.; The reference's insert.; As wp_appI (RowI); the other blocks stay.; The reference's Next.; Next: the program's list is the reference's.; ProgramNext.) -/
import Derived.Test.YtfkjokbhnblndaaGreatDoorRows
import Derived.Lib.AppendStr
import Derived.Deep.OwnRows
import Derived.Lib.SmallJoins
import Derived.Maps.AppendAt
import Derived.OwnWalk
import Derived.Sort.OwnSortedInts
import Derived.Lib.OwnBridge
import Derived.Lib.SlicesCompact
import Derived.Deep.Cut
import Derived.Stop.LaidErr
import Derived.Test.YtfkjokbhnblndaaGreatDoorCards
import Derived.Test.YtfkjokbhnblndaaGreatDoorTie
import Derived.WalkKit
import Derived.ProofKit
import Derived.OpenShut
import Derived.ShutString
import Derived.ChangeOld
import Derived.Below
import Derived.Deep.DeepHandedRow
import Derived.Lib.LaidTab
import Derived.Shelf.Vars
import Derived.Test.YtfkjokbhnblndaaGreatDoorISl
import Derived.Test.YtfkjokbhnblndaaGreatDoorPgE
import Derived.Test.YtfkjokbhnblndaaGreatDoorShelf
import Derived.Test.YtfkjokbhnblndaaGreatDoorPgP
import Derived.Test.YtfkjokbhnblndaaGreatDoorPgV
import Derived.Test.YtfkjokbhnblndaaGreatDoorPgU
import Derived.Test.YtfkjokbhnblndaaGreatDoorCfQ
import Derived.Test.YtfkjokbhnblndaaGreatDoorPgX
import Derived.Test.YtfkjokbhnblndaaGreatDoorPgY
import Derived.Test.YtfkjokbhnblndaaGreatDoorPgZ
import Derived.Test.YtfkjokbhnblndaaGreatDoorOpPg
import Derived.Test.YtfkjokbhnblndaaGreatDoorRt

namespace Go.Proofs.YtfkjokbhnblndaaGreatDoor
open Go.RowKit
set_option linter.unusedVariables false

theorem ownsRow_extI {base : Nat} {e : TypeId} {k : Nat} {v : Value} {n : Nat} {xs : List Value} {w w' : World} (h : w.ownsRow base e k v n xs) (hb : Below w.heap.size w w') : w'.ownsRow base e k v n xs :=
  h.kept (row := none) ⟨hb.os, hb.tape, hb.output, hb.size, fun i hi _ => hb.block i hi⟩ (by cases v.ownBlock with | none => exact .inl rfl | some j => exact .inr (by simp))
variable {ops : Array Oper} {rest : List Oper} {o : Oper} {a : Act} {Q : Exit → Act → World → Prop}
/-- v is a slice of integers of the call's own, holding l -/
def RowI (base : Nat) (v : Value) (l : List Int) (w : World) : Prop := w.ownsRow base 3 1 v l.length (l.map (Value.int .i64))
theorem infoI' : (Tryz.prog.info? 3).map (fun i => (i.zero, i.size, i.bytes)) = some (some (.int .i64 0), 1, 8) := by kernel_rfl
theorem RowI.nil (base : Nat) (w : World) : RowI base (.slice none 0 0) [] w := World.ownsRow_nil _ _ _ _
theorem RowI.empty (w : World) (base : Nat) (hb : base ≤ w.heap.size) : RowI base (.slice (some ⟨w.heap.size, 0, none⟩) 0 0) [] (w.alloc (.cells #[] 3)) :=
  World.ownsRow_lit w #[] 0 hb (by unfold maxLen; omega) (by simp)
theorem RowI.ext {base : Nat} {v : Value} {l : List Int} {w w' : World} (h : RowI base v l w) (hb : Below w.heap.size w w') : RowI base v l w' := ownsRow_extI h hb
theorem RowI.forms {base : Nat} {v : Value} {l : List Int} {w : World} (h : RowI base v l w) : (v = .slice none 0 0 ∧ l.length = 0) ∨ ∃ g cap, v = .slice (some ⟨g, 0, none⟩) l.length cap := Go.Joins.ownsRow_forms h
theorem RowI.ints {base : Nat} {v : Value} {l : List Int} {w : World} (h : RowI base v l w) : ∃ x c, v = .slice x l.length c ∧ IntsAt w x l ∧ (∀ y, x = some y → base ≤ y.block) ∧ (x = none → c = 0) := by
  rcases h.forms with ⟨rfl, h0⟩ | ⟨g, cap, rfl⟩
  · obtain rfl := List.eq_nil_of_length_eq_zero h0
    exact ⟨none, 0, rfl, IntsAt.nil, (fun y e => by cases e), fun _ => rfl⟩
  · refine ⟨_, _, rfl, fun i hi => ⟨_, _, rfl, ?_⟩, (fun y e => by cases e; exact (World.ownsRow.lt h g rfl).1), (fun e => by cases e)⟩
    rw [Nat.zero_add, World.ownsRow.cellAt h i (by omega)]
    simp [hi]

theorem wp_appI (hgd : o.guard = none) (s x : Operand) (ho : o.op = .call { callee := .builtin .append, args := #[s, x], argTypes := #[29, 29] })
    (base : Nat) (v : Value) (l : List Int) (hs : a.eval s = v) (W : World) (h : RowI base v l W) (n : Int) (hx : a.eval x = .slice (some ⟨W.heap.size, 0, none⟩) 1 1) (hlen : l.length ≤ 10000000000) (hbase : base ≤ W.heap.size)
    (hK : ∀ v' w', RowI base v' (l ++ [n]) w' → Below base W w' → wpList Tryz.prog ops Q rest (a.put o.dst v') w') : wpList Tryz.prog ops Q (o :: rest) a (W.alloc (.cells #[.int .i64 n] 3)) := by
  obtain ⟨i0, hi, hz0, hz1, hz2⟩ := info_parts infoI'
  refine wpList_append_own _ hgd s x 29 ho base 3 i0 (.int .i64 0) 1 8 Tryz.underlying29 hi hz0 hz1 hz2 rfl (by decide) v l.length (l.map (Value.int .i64)) hs (World.ownsRow.alloc h _) ⟨W.heap.size, 0, none⟩ 1 1 [.int .i64 n] hx rfl (cell_one_new _ _ _) (by simp [Value.oneCell']) (by unfold maxLen; omega) (by omega) (by simp; omega) ?_
  intro v' w' hown hg _
  refine hK v' w' ?_ ?_
  · unfold RowI
    simpa using hown
  · exact ((Below.refl base W).alloc hbase _).grown hg (by simp; omega) (fun k e => (World.ownsRow.lt h k e).1)

end Go.Proofs.YtfkjokbhnblndaaGreatDoor

namespace Go.Proofs.YtfkjokbhnblndaaGreatDoor
open Go.RowKit
set_option linter.unusedVariables false
set_option linter.unusedSimpArgs false

theorem Calls_argI {P : Program} {f : FuncId} {args args' : Array Value} {w : World} {Q : Ending → World → Prop} (h : Calls P f args w Q) (e : args = args') : Calls P f args' w Q := e ▸ h
def noI (q : Int → Bool) (l : List Int) (j : Nat) : Bool := (l.take j).all fun x => !q x
theorem noI_succ (q : Int → Bool) (l : List Int) (j : Nat) (h : j < l.length) : noI q l (j + 1) = (noI q l j && !q l[j]) := by
  unfold noI
  rw [List.take_succ_eq_append_getElem h, List.all_append]
  simp
def delI (q : Int → Bool) (l : List Int) : List Int := l.filter fun x => !q x
theorem delI_none {q : Int → Bool} {l : List Int} {j : Nat} (h : noI q l j = true) : delI q (l.take j) = l.take j := by
  unfold delI
  unfold noI at h
  rw [List.filter_eq_self]
  intro b hb
  exact List.all_eq_true.1 h b hb
theorem delI_succ (q : Int → Bool) (l : List Int) (j : Nat) (h : j < l.length) : delI q (l.take (j + 1)) = delI q (l.take j) ++ (if q l[j] = true then [] else [l[j]]) := by
  unfold delI
  rw [List.take_succ_eq_append_getElem h, List.filter_append]
  congr 1
  cases hq : q l[j] <;> simp [hq]
/-- what DeleteFunc has made of the first j -/
structure DJ (q : Int → Bool) (l : List Int) (i j : Nat) (R : List Int) : Prop where
  lt : i < j
  len : R.length = l.length
  low : R.take i = delI q (l.take j)
  high : ∀ k, j ≤ k → R[k]? = l[k]?
theorem DJ.start {q : Int → Bool} {l : List Int} {j : Nat} (h : j < l.length) (h0 : noI q l j = true) (h1 : q l[j] = true) : DJ q l j (j + 1) l :=
  ⟨by omega, rfl, by rw [delI_succ q l j h, if_pos h1, List.append_nil, delI_none h0], fun _ _ => rfl⟩
theorem DJ.skip {q : Int → Bool} {l : List Int} {i j : Nat} {R : List Int} (h : DJ q l i j R) (hj : j < l.length) (h1 : q l[j] = true) : DJ q l i (j + 1) R :=
  ⟨by have := h.lt; omega, h.len, by rw [delI_succ q l j hj, if_pos h1, List.append_nil, h.low], fun k hk => h.high k (by omega)⟩
theorem DJ.keep {q : Int → Bool} {l : List Int} {i j : Nat} {R : List Int} (h : DJ q l i j R) (hj : j < l.length) (h1 : q l[j] = false) : DJ q l (i + 1) (j + 1) (R.set i l[j]) := by
  have hi := h.lt
  have hl := h.len
  refine ⟨by omega, by rw [List.length_set]; exact hl, ?_, fun k hk => ?_⟩
  · rw [delI_succ q l j hj, if_neg (by simp [h1]), ← h.low, List.take_succ_eq_append_getElem (by rw [List.length_set]; omega), List.getElem_set_self, List.take_set_of_le (Nat.le_refl _)]
  · rw [List.getElem?_set_ne (by omega)]
    exact h.high k (by omega)
theorem DJ.done {q : Int → Bool} {l : List Int} {i : Nat} {R : List Int} (h : DJ q l i l.length R) : R.take i = delI q l := by
  rw [h.low, List.take_length]
theorem DJ.get {q : Int → Bool} {l : List Int} {i j : Nat} {R : List Int} (h : DJ q l i j R) (hj : j < l.length) : ∃ h' : j < R.length, R[j] = l[j] := by
  have h' : j < R.length := by rw [h.len]; exact hj
  refine ⟨h', ?_⟩
  have := h.high j (Nat.le_refl _)
  rw [List.getElem?_eq_getElem h', List.getElem?_eq_getElem hj] at this
  exact Option.some.inj this

theorem RowI.cell {base g cap : Nat} {l : List Int} {w : World} (h : RowI base (.slice (some ⟨g, 0, none⟩) l.length cap) l w) (i : Nat) (hi : i < l.length) : w.cell? ⟨g, i, none⟩ = some (.int .i64 l[i]) := by
  rw [World.ownsRow.cellAt h i (by simpa using hi)]
  simp [hi]
theorem RowI.store {base g cap : Nat} {l : List Int} {w : World} (h : RowI base (.slice (some ⟨g, 0, none⟩) l.length cap) l w) (i : Nat) (x : Int) : RowI base (.slice (some ⟨g, 0, none⟩) l.length cap) (l.set i x) (w.setCell ⟨g, i, none⟩ (.int .i64 x)) := by
  obtain ⟨h1, _⟩ := World.ownsRow.stored h i (.int .i64 x)
  unfold RowI
  simpa [List.map_set] using h1
/-- a store of cells from o on leaves the row's head -/
theorem rowI_cells_set {base g cap n : Nat} {e : TypeId} : ∀ (vs : List Value) (o : Nat) (xs : List Value) (w : World), w.ownsRow base e 1 (.slice (some ⟨g, 0, none⟩) n cap) n xs →
    ∃ ys, ys.take o = xs.take o ∧ (w.setCells g o vs).ownsRow base e 1 (.slice (some ⟨g, 0, none⟩) n cap) n ys ∧ Below base w (w.setCells g o vs)
  | [], o, xs, w, h => ⟨xs, rfl, h, Below.refl _ _⟩
  | v :: vs, o, xs, w, h => by
    obtain ⟨h1, _⟩ := World.ownsRow.stored h o v
    obtain ⟨ys, h2, h3, h4⟩ := rowI_cells_set vs (o + 1) _ _ h1
    refine ⟨ys, ?_, h3, Below.trans ((Below.refl base w).setCell (p := ⟨g, o, none⟩) (World.ownsRow.lt h g rfl).1 v) h4⟩
    have e1 := congrArg (List.take o) h2
    rw [List.take_take, List.take_take, Nat.min_eq_left (by omega), List.take_set_of_le (Nat.le_refl _)] at e1
    exact e1
theorem rowI_cut {base g cap n : Nat} {e : TypeId} {xs : List Value} {w : World} (h : w.ownsRow base e 1 (.slice (some ⟨g, 0, none⟩) n cap) n xs) (k : Nat) (hk : k ≤ n) : w.ownsRow base e 1 (.slice (some ⟨g, 0, none⟩) k cap) k (xs.take k) := by
  obtain ⟨h1, h2⟩ := h
  rcases h2 with ⟨e0, _⟩ | ⟨g', cap', cur, e0, hb, hg, hn, hm, hs, ht⟩
  · cases e0
  · injection e0 with e1 _ e3
    injection e1 with e1
    injection e1 with e1
    subst e1; subst e3
    have hx : xs.length = n := by omega
    refine ⟨by rw [List.length_take]; omega, .inr ⟨g, cap, cur, rfl, hb, hg, by omega, hm, hs, ?_⟩⟩
    rw [← ht, List.take_take]
    congr 1
    omega
/-- the cells that clear writes -/
def zerosI (n : Nat) : List Value := (Builtin.zeroCells #[.int .i64 0] n).toList
theorem zerosI_length (n : Nat) : (zerosI n).length = n := by simp [zerosI, Builtin.zeroCells]
theorem clearI_run (ty : TypeId) (g o n c : Nat) (w : World) (hn : 0 < n) (hc : ∀ j, j < n → (w.cell? ⟨g, o + j, none⟩).isSome = true) (hf : ∀ j, j < n → w.frozen? ⟨g, o + j, none⟩ = false) :
    (Builtin.clear_ #[29] ty #[.slice (some ⟨g, o, none⟩) n c]).run Tryz.prog w = .ok (.tuple #[]) (w.setCells g o (zerosI n)) := by
  have hv : ∀ w, (zeroValue 3).run Tryz.prog w = .ok (.int .i64 0) w := fun w => by kernel_rfl
  have hst := run_storeCells_cells (P := Tryz.prog) g o (zerosI n) 0 w (by rw [zerosI_length]; simpa using hc) (by rw [zerosI_length]; simpa using hf) (by
    intro v hv'
    unfold zerosI Builtin.zeroCells at hv'
    simp only [Array.toList_map, List.mem_map] at hv'
    obtain ⟨i, _, rfl⟩ := hv'
    show (#[Value.int .i64 0][i % 1]!).oneCell' = true
    rw [Nat.mod_one]; rfl)
  simp only [Nat.add_zero] at hst
  obtain ⟨m, rfl⟩ : ∃ m, n = m + 1 := ⟨n - 1, by omega⟩
  unfold zerosI at hst ⊢
  simp [Builtin.clear_, run_underlying Tryz.underlying29, hv, Value.cells, hst]

set_option maxHeartbeats 1000000 in
theorem IdxA_any (q : Int → Bool) (l : List Int) (p : Option Addr) (c : Nat) (w : World) (hl : l.length ≤ maxLen) (hA : IntsAt w p l) (hF : ∀ n W, Ext w W → Gives Tryz.prog 39 #[.int .i64 n] W (.bool (q n))) :
    Calls Tryz.prog 42 #[.slice p l.length c, .func (.func 39) #[] #[]] w fun e w' =>
      Ext w w' ∧ ((noI q l l.length = true ∧ e = .returned (.int .i64 (-1))) ∨ ∃ j, ∃ h : j < l.length, noI q l j = true ∧ q l[j] = true ∧ e = .returned (.int .i64 (j : Int))) := by
  have en := enters_fn Tryz.func39 (by kernel_rfl) rfl
  unfold maxLen at hl
  have HA := Lib.hid hA
  have HS := Lib.hid (noI_succ q l)
  have HF := Lib.hid hF
  clear hA hF
  go_enter Tryz.func42, Tryz.ntmps42
  go_wp2
  go_loopw [8] (fun i wr => ∃ j : Nat, j ≤ l.length ∧ i = .int .i64 (j : Int) ∧ noI q l j = true ∧ Ext w wr) (fun i _ => l.length - (intOf i).toNat)
  case atStart => exact ⟨0, Nat.zero_le _, rfl, rfl, Below.refl _ _⟩
  case round =>
    obtain ⟨j, hj, rfl, hk, hE⟩ := hrel
    have HK := Lib.hid hk
    have HE := Lib.hid hE
    by_cases hlt : j < l.length
    · obtain ⟨b, off, rfl, hcs⟩ := (HA.out.below hE) j hlt
      have FC := Lib.hid (fun W (hW : Ext wr W) => HF.out l[j] W (Ext.trans HE.out hW))
      have hs := Lib.hid (HS.out j hlt)
      cases hb : q l[j] with
      | true =>
        rw [hb] at FC
        have HR := Lib.hid hb
        have HX := Lib.hid (show ∀ w', Ext wr w' → (Ext w w' ∧ ((noI q l l.length = true ∧ Ending.returned (.int .i64 (j : Int)) = .returned (.int .i64 (-1))) ∨ ∃ j', ∃ h : j' < l.length, noI q l j' = true ∧ q l[j'] = true ∧ Ending.returned (.int .i64 (j : Int)) = .returned (.int .i64 (j' : Int)))) from fun w' h => ⟨Ext.trans HE.out h, .inr ⟨j, hlt, HK.out, HR.out, rfl⟩⟩)
        clear hk hE hb hs HR HK HE HF HS
        generalize l[j] = x at *
        go_wp2_with fail
        refine (FC.out _ (Below.refl _ _)).mono ?_
        intro w1 hB1
        go_wp2
        go_ret
        exact HX.out _ hB1
      | false =>
        rw [hb] at FC
        have HR := Lib.hid (show noI q l (j + 1) = true by rw [hs.out, HK.out]; simp [hb])
        clear hk hE hb hs HK HF HS
        generalize l[j] = x at *
        go_wp2_with fail
        refine (FC.out _ (Below.refl _ _)).mono ?_
        intro w1 hB1
        go_wp2
        go_roundw
        case rel => exact ⟨j + 1, by omega, by go_num, HR.out, Ext.trans HE.out hB1⟩
        case measure => simp [intOf]; omega
    · obtain rfl : j = l.length := by omega
      have HR := Lib.hid HK.out
      clear hk hE
      go_wp2
      go_ret
      exact ⟨HE.out, .inl ⟨HR.out, rfl⟩⟩

set_option maxRecDepth 100000 in
set_option maxHeartbeats 4000000 in
theorem DelA_any (q : Int → Bool) (l : List Int) (base : Nat) (v : Value) (w : World) (hl : l.length ≤ 4398046510976) (hR : RowI base v l w) (hbase : base ≤ w.heap.size) (hF : ∀ n W, Below base w W → Gives Tryz.prog 39 #[.int .i64 n] W (.bool (q n))) :
    Calls Tryz.prog 20 #[v, .func (.func 39) #[] #[]] w fun e w' => ∃ v', e = .returned v' ∧ RowI base v' (delI q l) w' ∧ Below base w w' := by
  have en := enters_fn Tryz.func39 (by kernel_rfl) rfl
  obtain ⟨p, c, rfl, hA, _, _⟩ := hR.ints
  have IC := Lib.hid (IdxA_any  q l p c w (by unfold maxLen; omega) hA (fun n W hW => hF n W (hW.mono hbase)))
  have HR := Lib.hid hR
  have HD0 := Lib.hid (show noI q l l.length = true → delI q l = l from fun h => by have := delI_none h; rwa [List.take_length] at this)
  have HST := Lib.hid (fun j h h0 h1 => DJ.start (q := q) (l := l) (j := j) h h0 h1)
  have FC := Lib.hid hF
  obtain ⟨m, hm⟩ : ∃ m, l.length = m := ⟨_, rfl⟩
  have HM := Lib.hid hm
  rw [hm] at hl
  rw [hm]
  have IC := Lib.hid (Calls_argI IC.out (show _ = #[.slice p m c, .func (.func 39) #[] #[]] by rw [hm]))
  clear hA hR hF hm
  go_enter Tryz.func20, Tryz.ntmps20
  go_wp2_with fail
  refine IC.out.mono ?_
  rintro e w1 ⟨hE1, ⟨hno, rfl⟩ | ⟨j0, hj0, h0, h1, rfl⟩⟩
  · have HNO := Lib.hid (HD0.out hno)
    have HE1 := Lib.hid hE1
    clear hno hE1
    go_wp2
    go_ret
    exact ⟨_, rfl, by rw [HNO.out, ← HM.out]; exact HR.out.ext HE1.out, HE1.out.mono hbase⟩
  · have hj0' : j0 < l.length := hj0
    have hj0m : j0 < m := by rw [← HM.out]; exact hj0
    have HS0 := Lib.hid (HST.out j0 hj0' h0 h1)
    have HE1 := Lib.hid hE1
    have hne1 : ((j0 : Int) == -1) = false := beq_eq_false_iff_ne.2 (by omega)
    obtain ⟨g, cap, hpg⟩ : ∃ g cap, Value.slice p l.length c = .slice (some ⟨g, 0, none⟩) l.length cap := by
      rcases HR.out.forms with ⟨e, e2⟩ | h
      · omega
      · exact h
    injection hpg with e1 _ e3
    subst e1; subst e3
    have hgb := (World.ownsRow.lt HR.out g rfl).1
    have HR1 := Lib.hid (HR.out.ext HE1.out)
    clear h0 h1 hE1 HST HD0 IC hj0
    go_wp2_with fail
    go_loopw [5, 6, 7] (fun si sj s7 wr => ∃ (i j : Nat) (R : List Int), si = .int .i64 (i : Int) ∧ sj = .int .i64 (j : Int) ∧ j ≤ m ∧ DJ q l i j R ∧ RowI base (.slice (some ⟨g, 0, none⟩) m c) R wr ∧ Below base w wr) (fun _ sj _ _ => m - (intOf sj).toNat)
    case atStart => exact ⟨j0, j0 + 1, l, rfl, by go_num, by omega, HS0.out, by rw [← HM.out]; exact HR1.out, HE1.out.mono hbase⟩
    case round =>
      obtain ⟨i, j, R, rfl, rfl, hj, hI, hr, hE⟩ := hrel
      have HI := Lib.hid hI
      have HR2 := Lib.hid hr
      have HE := Lib.hid hE
      have hij := hI.lt
      have hRl : R.length = m := by rw [hI.len, HM.out]
      have HRL := Lib.hid hRl
      have hgr := (World.ownsRow.lt hr g rfl).2
      have hbr : base ≤ wr.heap.size := Nat.le_trans hbase HE.out.size
      clear hI hE
      by_cases hlt : j < m
      · have hjb : j < l.length := by rw [HM.out]; exact hlt
        obtain ⟨hjR, hget⟩ := HI.out.get hjb
        have hr' : RowI base (.slice (some ⟨g, 0, none⟩) R.length c) R wr := by rw [hRl]; exact hr
        have c0 := hr'.cell j hjR
        rw [hget] at c0
        have D := Lib.hid (FC.out l[j])
        have HK := Lib.hid (fun h => HI.out.keep hjb h)
        have HSK := Lib.hid (fun h => HI.out.skip hjb h)
        clear hr hr' hget
        generalize q l[j] = qq at *
        generalize l[j] = x at *
        go_wp2_with fail
        refine (D.out _ HE.out).mono ?_
        intro w4 hE4
        replace hE4 : Ext wr w4 := hE4
        have HE4 := Lib.hid hE4
        clear hE4 c0
        cases qq with
        | true =>
          have HN := Lib.hid (HSK.out rfl)
          clear HSK HK
          go_wp2
          go_roundw
          case rel => exact ⟨i, j + 1, R, rfl, by go_num, by omega, HN.out, HR2.out.ext HE4.out, Below.trans HE.out (HE4.out.mono hbr)⟩
          case measure => simp [intOf]; omega
        | false =>
          have HN := Lib.hid (HK.out rfl)
          clear HSK HK
          have hiR : i < R.length := by omega
          have hr4 : RowI base (.slice (some ⟨g, 0, none⟩) R.length c) R w4 := by rw [HRL.out]; exact HR2.out.ext HE4.out
          have e0 := hr4.cell i hiR
          have f0 : ∀ k, w4.frozen? ⟨g, k, none⟩ = false := fun k => World.ownsRow.frozenAt hr4 k
          have h1 := RowI.store hr4 i x
          have h2 : Below base w (w4.setCell ⟨g, i, none⟩ (.int .i64 x)) := Below.trans (Below.trans HE.out (HE4.out.mono hbr)) ((Below.refl _ _).setCell (p := ⟨g, i, none⟩) hgb _)
          rw [HRL.out] at h1
          have H1 := Lib.hid h1
          have H2 := Lib.hid h2
          have him : i < m := by omega
          generalize R[i] = old at *
          clear hr4 hiR h1 h2
          go_wp2
          go_roundw
          case rel => exact ⟨i + 1, j + 1, R.set i x, by go_num, by go_num, by omega, HN.out, H1.out, H2.out⟩
          case measure => simp [intOf]; omega
      · obtain rfl : j = m := by omega
        have hr' : RowI base (.slice (some ⟨g, 0, none⟩) R.length c) R wr := by rw [hRl]; exact hr
        have hcl : ∀ ty, (Builtin.clear_ #[29] ty #[.slice (some ⟨g, i, none⟩) (j - i) (c - i)]).run Tryz.prog wr = .ok (.tuple #[]) (wr.setCells g i (zerosI (j - i))) :=
          fun ty => clearI_run ty g i (j - i) (c - i) wr (by omega) (fun k hk => by
            rw [hr'.cell (i + k) (by omega)]; rfl) (fun k hk => World.ownsRow.frozenAt hr' _)
        have hcap : j ≤ c := by
          rcases hr.2 with ⟨e, _⟩ | ⟨g', cap', cur, e, _, _, hn, _⟩
          · cases e
          · cases e; exact hn
        have hltz : ¬ (j : Int) < (j : Int) := by omega
        obtain ⟨ys, hy1, hy2, hy3⟩ := rowI_cells_set (zerosI (j - i)) i _ _ hr'
        have HY2 := Lib.hid (rowI_cut hy2 i (by omega))
        have HY1 := Lib.hid hy1
        have HY3 := Lib.hid hy3
        clear hr hr' hy1 hy2 hy3
        go_wp2
        go_ret
        refine ⟨_, rfl, ?_, Below.trans HE.out HY3.out⟩
        have hd : R.take i = delI q l := by
          have h := HI.out
          rw [← HM.out] at h
          exact h.done
        have h := HY2.out
        rw [HY1.out, ← List.map_take, hd] at h
        unfold RowI
        have hli : (delI q l).length = i := by rw [← hd, List.length_take]; omega
        rw [hli]
        exact h

set_option maxHeartbeats 1000000 in
theorem IdxN_any (x1 x2 : Value) (q : Int → Bool) (l : List Int) (p : Option Addr) (c : Nat) (w : World) (hl : l.length ≤ maxLen) (hA : IntsAt w p l) (hF : ∀ n W, Ext w W → Gives Tryz.prog 21 #[.int .i64 n, x1, x2] W (.bool (q n))) :
    Calls Tryz.prog 42 #[.slice p l.length c, .func (.func 21) #[] #[x1, x2]] w fun e w' =>
      Ext w w' ∧ ((noI q l l.length = true ∧ e = .returned (.int .i64 (-1))) ∨ ∃ j, ∃ h : j < l.length, noI q l j = true ∧ q l[j] = true ∧ e = .returned (.int .i64 (j : Int))) := by
  have en := enters_fn Tryz.func21 (by kernel_rfl) rfl
  unfold maxLen at hl
  have HA := Lib.hid hA
  have HS := Lib.hid (noI_succ q l)
  have HF := Lib.hid hF
  clear hA hF
  go_enter Tryz.func42, Tryz.ntmps42
  go_wp2
  go_loopw [8] (fun i wr => ∃ j : Nat, j ≤ l.length ∧ i = .int .i64 (j : Int) ∧ noI q l j = true ∧ Ext w wr) (fun i _ => l.length - (intOf i).toNat)
  case atStart => exact ⟨0, Nat.zero_le _, rfl, rfl, Below.refl _ _⟩
  case round =>
    obtain ⟨j, hj, rfl, hk, hE⟩ := hrel
    have HK := Lib.hid hk
    have HE := Lib.hid hE
    by_cases hlt : j < l.length
    · obtain ⟨b, off, rfl, hcs⟩ := (HA.out.below hE) j hlt
      have FC := Lib.hid (fun W (hW : Ext wr W) => HF.out l[j] W (Ext.trans HE.out hW))
      have hs := Lib.hid (HS.out j hlt)
      cases hb : q l[j] with
      | true =>
        rw [hb] at FC
        have HR := Lib.hid hb
        have HX := Lib.hid (show ∀ w', Ext wr w' → (Ext w w' ∧ ((noI q l l.length = true ∧ Ending.returned (.int .i64 (j : Int)) = .returned (.int .i64 (-1))) ∨ ∃ j', ∃ h : j' < l.length, noI q l j' = true ∧ q l[j'] = true ∧ Ending.returned (.int .i64 (j : Int)) = .returned (.int .i64 (j' : Int)))) from fun w' h => ⟨Ext.trans HE.out h, .inr ⟨j, hlt, HK.out, HR.out, rfl⟩⟩)
        clear hk hE hb hs HR HK HE HF HS
        generalize l[j] = x at *
        go_wp2_with fail
        refine (FC.out _ (Below.refl _ _)).mono ?_
        intro w1 hB1
        go_wp2
        go_ret
        exact HX.out _ hB1
      | false =>
        rw [hb] at FC
        have HR := Lib.hid (show noI q l (j + 1) = true by rw [hs.out, HK.out]; simp [hb])
        clear hk hE hb hs HK HF HS
        generalize l[j] = x at *
        go_wp2_with fail
        refine (FC.out _ (Below.refl _ _)).mono ?_
        intro w1 hB1
        go_wp2
        go_roundw
        case rel => exact ⟨j + 1, by omega, by go_num, HR.out, Ext.trans HE.out hB1⟩
        case measure => simp [intOf]; omega
    · obtain rfl : j = l.length := by omega
      have HR := Lib.hid HK.out
      clear hk hE
      go_wp2
      go_ret
      exact ⟨HE.out, .inl ⟨HR.out, rfl⟩⟩

set_option maxRecDepth 100000 in
set_option maxHeartbeats 4000000 in
theorem DelN_any (x1 x2 : Value) (q : Int → Bool) (l : List Int) (base : Nat) (v : Value) (w : World) (hl : l.length ≤ 4398046510976) (hR : RowI base v l w) (hbase : base ≤ w.heap.size) (hF : ∀ n W, Below base w W → Gives Tryz.prog 21 #[.int .i64 n, x1, x2] W (.bool (q n))) :
    Calls Tryz.prog 20 #[v, .func (.func 21) #[] #[x1, x2]] w fun e w' => ∃ v', e = .returned v' ∧ RowI base v' (delI q l) w' ∧ Below base w w' := by
  have en := enters_fn Tryz.func21 (by kernel_rfl) rfl
  obtain ⟨p, c, rfl, hA, _, _⟩ := hR.ints
  have IC := Lib.hid (IdxN_any x1 x2 q l p c w (by unfold maxLen; omega) hA (fun n W hW => hF n W (hW.mono hbase)))
  have HR := Lib.hid hR
  have HD0 := Lib.hid (show noI q l l.length = true → delI q l = l from fun h => by have := delI_none h; rwa [List.take_length] at this)
  have HST := Lib.hid (fun j h h0 h1 => DJ.start (q := q) (l := l) (j := j) h h0 h1)
  have FC := Lib.hid hF
  obtain ⟨m, hm⟩ : ∃ m, l.length = m := ⟨_, rfl⟩
  have HM := Lib.hid hm
  rw [hm] at hl
  rw [hm]
  have IC := Lib.hid (Calls_argI IC.out (show _ = #[.slice p m c, .func (.func 21) #[] #[x1, x2]] by rw [hm]))
  clear hA hR hF hm
  go_enter Tryz.func20, Tryz.ntmps20
  go_wp2_with fail
  refine IC.out.mono ?_
  rintro e w1 ⟨hE1, ⟨hno, rfl⟩ | ⟨j0, hj0, h0, h1, rfl⟩⟩
  · have HNO := Lib.hid (HD0.out hno)
    have HE1 := Lib.hid hE1
    clear hno hE1
    go_wp2
    go_ret
    exact ⟨_, rfl, by rw [HNO.out, ← HM.out]; exact HR.out.ext HE1.out, HE1.out.mono hbase⟩
  · have hj0' : j0 < l.length := hj0
    have hj0m : j0 < m := by rw [← HM.out]; exact hj0
    have HS0 := Lib.hid (HST.out j0 hj0' h0 h1)
    have HE1 := Lib.hid hE1
    have hne1 : ((j0 : Int) == -1) = false := beq_eq_false_iff_ne.2 (by omega)
    obtain ⟨g, cap, hpg⟩ : ∃ g cap, Value.slice p l.length c = .slice (some ⟨g, 0, none⟩) l.length cap := by
      rcases HR.out.forms with ⟨e, e2⟩ | h
      · omega
      · exact h
    injection hpg with e1 _ e3
    subst e1; subst e3
    have hgb := (World.ownsRow.lt HR.out g rfl).1
    have HR1 := Lib.hid (HR.out.ext HE1.out)
    clear h0 h1 hE1 HST HD0 IC hj0
    go_wp2_with fail
    go_loopw [5, 6, 7] (fun si sj s7 wr => ∃ (i j : Nat) (R : List Int), si = .int .i64 (i : Int) ∧ sj = .int .i64 (j : Int) ∧ j ≤ m ∧ DJ q l i j R ∧ RowI base (.slice (some ⟨g, 0, none⟩) m c) R wr ∧ Below base w wr) (fun _ sj _ _ => m - (intOf sj).toNat)
    case atStart => exact ⟨j0, j0 + 1, l, rfl, by go_num, by omega, HS0.out, by rw [← HM.out]; exact HR1.out, HE1.out.mono hbase⟩
    case round =>
      obtain ⟨i, j, R, rfl, rfl, hj, hI, hr, hE⟩ := hrel
      have HI := Lib.hid hI
      have HR2 := Lib.hid hr
      have HE := Lib.hid hE
      have hij := hI.lt
      have hRl : R.length = m := by rw [hI.len, HM.out]
      have HRL := Lib.hid hRl
      have hgr := (World.ownsRow.lt hr g rfl).2
      have hbr : base ≤ wr.heap.size := Nat.le_trans hbase HE.out.size
      clear hI hE
      by_cases hlt : j < m
      · have hjb : j < l.length := by rw [HM.out]; exact hlt
        obtain ⟨hjR, hget⟩ := HI.out.get hjb
        have hr' : RowI base (.slice (some ⟨g, 0, none⟩) R.length c) R wr := by rw [hRl]; exact hr
        have c0 := hr'.cell j hjR
        rw [hget] at c0
        have D := Lib.hid (FC.out l[j])
        have HK := Lib.hid (fun h => HI.out.keep hjb h)
        have HSK := Lib.hid (fun h => HI.out.skip hjb h)
        clear hr hr' hget
        generalize q l[j] = qq at *
        generalize l[j] = x at *
        go_wp2_with fail
        refine (D.out _ HE.out).mono ?_
        intro w4 hE4
        replace hE4 : Ext wr w4 := hE4
        have HE4 := Lib.hid hE4
        clear hE4 c0
        cases qq with
        | true =>
          have HN := Lib.hid (HSK.out rfl)
          clear HSK HK
          go_wp2
          go_roundw
          case rel => exact ⟨i, j + 1, R, rfl, by go_num, by omega, HN.out, HR2.out.ext HE4.out, Below.trans HE.out (HE4.out.mono hbr)⟩
          case measure => simp [intOf]; omega
        | false =>
          have HN := Lib.hid (HK.out rfl)
          clear HSK HK
          have hiR : i < R.length := by omega
          have hr4 : RowI base (.slice (some ⟨g, 0, none⟩) R.length c) R w4 := by rw [HRL.out]; exact HR2.out.ext HE4.out
          have e0 := hr4.cell i hiR
          have f0 : ∀ k, w4.frozen? ⟨g, k, none⟩ = false := fun k => World.ownsRow.frozenAt hr4 k
          have h1 := RowI.store hr4 i x
          have h2 : Below base w (w4.setCell ⟨g, i, none⟩ (.int .i64 x)) := Below.trans (Below.trans HE.out (HE4.out.mono hbr)) ((Below.refl _ _).setCell (p := ⟨g, i, none⟩) hgb _)
          rw [HRL.out] at h1
          have H1 := Lib.hid h1
          have H2 := Lib.hid h2
          have him : i < m := by omega
          generalize R[i] = old at *
          clear hr4 hiR h1 h2
          go_wp2
          go_roundw
          case rel => exact ⟨i + 1, j + 1, R.set i x, by go_num, by go_num, by omega, HN.out, H1.out, H2.out⟩
          case measure => simp [intOf]; omega
      · obtain rfl : j = m := by omega
        have hr' : RowI base (.slice (some ⟨g, 0, none⟩) R.length c) R wr := by rw [hRl]; exact hr
        have hcl : ∀ ty, (Builtin.clear_ #[29] ty #[.slice (some ⟨g, i, none⟩) (j - i) (c - i)]).run Tryz.prog wr = .ok (.tuple #[]) (wr.setCells g i (zerosI (j - i))) :=
          fun ty => clearI_run ty g i (j - i) (c - i) wr (by omega) (fun k hk => by
            rw [hr'.cell (i + k) (by omega)]; rfl) (fun k hk => World.ownsRow.frozenAt hr' _)
        have hcap : j ≤ c := by
          rcases hr.2 with ⟨e, _⟩ | ⟨g', cap', cur, e, _, _, hn, _⟩
          · cases e
          · cases e; exact hn
        have hltz : ¬ (j : Int) < (j : Int) := by omega
        obtain ⟨ys, hy1, hy2, hy3⟩ := rowI_cells_set (zerosI (j - i)) i _ _ hr'
        have HY2 := Lib.hid (rowI_cut hy2 i (by omega))
        have HY1 := Lib.hid hy1
        have HY3 := Lib.hid hy3
        clear hr hr' hy1 hy2 hy3
        go_wp2
        go_ret
        refine ⟨_, rfl, ?_, Below.trans HE.out HY3.out⟩
        have hd : R.take i = delI q l := by
          have h := HI.out
          rw [← HM.out] at h
          exact h.done
        have h := HY2.out
        rw [HY1.out, ← List.map_take, hd] at h
        unfold RowI
        have hli : (delI q l).length = i := by rw [← hd, List.length_take]; omega
        rw [hli]
        exact h

end Go.Proofs.YtfkjokbhnblndaaGreatDoor

namespace Go.Proofs.YtfkjokbhnblndaaGreatDoor
open Go.RowKit
set_option linter.unusedVariables false
set_option linter.unusedSimpArgs false

theorem grownBy_reflI (w : World) (row : Option Nat) : w.grownBy w row := ⟨rfl, rfl, rfl, Nat.le_refl _, fun _ _ _ => rfl⟩
theorem grownBy_putI {w : World} {g q : Nat} (d : Array Int) : w.grownBy (Go.Sort.putRow (Value.int .i64) (Go.Sort.ahead w q) g 0 d) (some g) := by
  have h := grownBy_sortedI (w := w) (g := g) (n := q) (os := #[]) d
  rwa [Go.Sort.grow_empty] at h
theorem RowI.grown {base : Nat} {v : Value} {l : List Int} {w w' : World} (h : RowI base v l w) (hb : base ≤ w.heap.size) (hg : w.grownBy w' v.ownBlock) : Below base w w' :=
  (Below.refl base w).grown hg hb (fun k e => (World.ownsRow.lt h k e).1)
theorem SortI_row {base : Nat} {v : Value} {l : List Int} {w : World} (h : RowI base v l w) (hl : l.length ≤ 1000000000) :
    Calls Tryz.prog 40 #[v] w fun e w' => e = .returned (.tuple #[]) ∧ RowI base v (l.mergeSort fun x y => decide (x ≤ y)) w' ∧ w.grownBy w' v.ownBlock := by
  rcases h.2 with ⟨rfl, h0⟩ | ⟨g, cap, cur, rfl, hb, hg, hn, hm, hs, ht⟩
  · obtain rfl := List.eq_nil_of_length_eq_zero h0
    refine (Tryz.slices_Sort_int_none none 0 w).mono ?_
    rintro e w' ⟨rfl, rfl⟩
    exact ⟨rfl, by rw [List.mergeSort_nil]; exact RowI.nil _ _, grownBy_reflI _ _⟩
  · refine (Tryz.slices_Sort_int g 0 cap l w (holds_of_blockI hg (by have t := ht; rw [Nat.mul_one] at t; exact t)) (lt_of_block hg) (by omega)).mono ?_
    rintro e w' ⟨rfl, n, os, rfl⟩
    refine ⟨rfl, ?_, grownBy_sortedI _⟩
    have h := ownsRow_sortedI (n := n) (os := os) (ts := l.mergeSort fun x y => decide (x ≤ y)) (List.length_mergeSort l) hb hg hn hm hs
    unfold RowI
    rw [List.length_mergeSort]
    exact h
theorem CompactI_row {base : Nat} {v : Value} {l : List Int} {w : World} (h : RowI base v l w) (hl : l.length ≤ 1000000000) :
    Calls Tryz.prog 41 #[v] w fun e w' => ∃ v', e = .returned v' ∧ RowI base v' (Lib.compact l) w' ∧ w.grownBy w' v.ownBlock := by
  rcases h.2 with ⟨rfl, h0⟩ | ⟨g, cap, cur, rfl, hb, hg, hn, hm, hs, ht⟩
  · obtain rfl := List.eq_nil_of_length_eq_zero h0
    refine (Tryz.slices_Compact_int_empty none 0 w).mono ?_
    rintro e w' ⟨rfl, rfl⟩
    exact ⟨_, rfl, RowI.nil _ _, grownBy_reflI _ _⟩
  · refine (Tryz.slices_Compact_int g 0 cap l w (holds_of_blockI hg (by have t := ht; rw [Nat.mul_one] at t; exact t)) (by omega) hn).mono ?_
    rintro e w' ⟨rfl, q, rfl⟩
    refine ⟨_, rfl, ?_, grownBy_putI _⟩
    have hc := Lib.compact_length_le l
    have h' := Lib.ownsRow_putRow (enc := Value.int .i64) (q := q) (k := (Lib.compact l).length) (ys := Lib.compact l ++ List.replicate (l.length - (Lib.compact l).length) 0) h (by simp; omega) hc
    rw [List.take_left] at h'
    exact h'
theorem CloneI_row (l : List Int) (a : Option Addr) (c : Nat) (w : World) (hl : l.length ≤ 1000000000) (hA : IntsAt w a l) :
    Calls Tryz.prog 38 #[.slice a l.length c] w fun e w' => ∃ v', e = .returned v' ∧ RowI w.heap.size v' l w' ∧ Ext w w' := by
  cases l with
  | nil =>
    cases a with
    | none =>
      refine (Tryz.slices_Clone_int_nil 0 c w).mono ?_
      rintro e w' ⟨rfl, rfl⟩
      exact ⟨_, rfl, RowI.nil _ _, Below.refl _ _⟩
    | some a =>
      refine (Tryz.slices_Clone_int_zero a c w).mono ?_
      rintro e w' ⟨v', rfl, h1, _, h2⟩
      exact ⟨_, rfl, h1, h2⟩
  | cons x l =>
    obtain ⟨b, off, rfl, _⟩ := hA 0 (by simp)
    refine (Tryz.slices_Clone_int b off (x :: l).length c (x :: l) w (Nat.le_refl _) (by omega) (fun j hj => ?_)).mono ?_
    · obtain ⟨b', off', e, hc⟩ := hA j hj
      injection e with e
      injection e with e1 e2
      subst e1; subst e2
      rw [hc, List.getD_eq_getElem?_getD, List.getElem?_eq_getElem hj]; rfl
    · rintro e w' ⟨v', rfl, h1, _, h2⟩
      refine ⟨_, rfl, ?_, h2⟩
      rw [List.take_length] at h1
      exact h1

/-- in order, without repetition, without -1 -/
def asc (l : List Int) : List Int := Lib.compact ((delI (fun n => n == -1) l).mergeSort fun x y => decide (x ≤ y))
theorem asc1_any (n : Int) (w : World) : Gives Tryz.prog 39 #[.int .i64 n] w (.bool (n == -1)) := by
  unfold Gives
  go_enter Tryz.func39, Tryz.ntmps39
  go_wp2
  go_ret
  exact ⟨rfl, Below.refl _ _⟩
theorem delI_len (q : Int → Bool) (l : List Int) : (delI q l).length ≤ l.length := List.length_filter_le _ _
theorem asc_len (l : List Int) : (asc l).length ≤ l.length := by
  unfold asc
  refine Nat.le_trans (Lib.compact_length_le _) ?_
  rw [List.length_mergeSort]
  exact delI_len _ _
set_option maxHeartbeats 1000000 in
theorem ascending_any (l : List Int) (a : Option Addr) (c : Nat) (w : World) (hl : l.length ≤ 1000000000) (hA : IntsAt w a l) :
    Calls Tryz.prog 19 #[.slice a l.length c] w fun e w' => ∃ v', e = .returned v' ∧ RowI w.heap.size v' (asc l) w' ∧ Ext w w' := by
  have K1 := Lib.hid (CloneI_row l a c w hl hA)
  have HD := Lib.hid (delI_len (fun n => n == -1) l)
  clear hA
  go_enter Tryz.func19, Tryz.ntmps19
  go_wp2_with fail
  refine K1.out.mono ?_
  rintro _ w1 ⟨v1, rfl, hR, hE⟩
  have HR1 := Lib.hid hR
  have HE1 := Lib.hid hE
  have K2 := Lib.hid (DelA_any (fun n => n == -1) l w.heap.size v1 w1 (by omega) hR hE.size (fun n W _ => asc1_any n W))
  clear hR hE
  go_wp2_with fail
  refine K2.out.mono ?_
  rintro _ w2 ⟨v2, rfl, hR, hE⟩
  have HR2 := Lib.hid hR
  have HE2 := Lib.hid (Below.trans HE1.out hE)
  have K3 := Lib.hid (SortI_row hR (Nat.le_trans HD.out hl))
  clear hR hE
  go_wp2_with fail
  refine K3.out.mono ?_
  rintro _ w3 ⟨rfl, hR, hG⟩
  have HR3 := Lib.hid hR
  have HE3 := Lib.hid (Below.trans HE2.out (HR2.out.grown HE2.out.size hG))
  have K4 := Lib.hid (CompactI_row hR (by rw [List.length_mergeSort]; exact Nat.le_trans HD.out hl))
  clear hR hG
  go_wp2_with fail
  refine K4.out.mono ?_
  rintro _ w4 ⟨v4, rfl, hR, hG⟩
  have HR4 := Lib.hid hR
  have HE4 := Lib.hid (Below.trans HE3.out (HR3.out.grown HE3.out.size hG))
  clear hR hG
  go_wp2
  go_ret
  exact ⟨_, rfl, HR4.out, HE4.out⟩
end Go.Proofs.YtfkjokbhnblndaaGreatDoor

namespace Go.Proofs.YtfkjokbhnblndaaGreatDoor
open Go.RowKit
set_option linter.unusedVariables false
set_option linter.unusedSimpArgs false

/-- what can follow, before it is put in order -/
def nxL (x : Ins) (pc : Int) : List Int :=
  if x.op = 16 ∨ x.op = 21 then [] else if x.op = 13 then [x.a] else if x.op = 14 then [pc + 1, x.b] else if x.op = 35 then [pc + 1, x.c] else [pc + 1]
def nxI (n : Nat) (x : Ins) (pc : Int) : List Int := asc (delI (fun m => decide ((n : Int) ≤ m)) (nxL x pc))
def nxOk (p : Pg) (k j : Nat) : Prop := ckPg p = 0 ∧ k < p.fs.length ∧ j < ((p.fs.getD k ⟨[], 0, 0, 0, false, []⟩).code).length
/-- a row of one or two numbers of the call's own -/
theorem rowI_1 (w : World) (base n : Nat) (a : Int) (hn : w.heap.size = n) (hb : base ≤ w.heap.size) : RowI base (.slice (some ⟨n, 0, none⟩) 1 1) [a] (w.alloc (.cells #[.int .i64 a] 3)) := by
  subst hn
  have h := World.ownsRow_lit (e := 3) (size := 1) w #[.int .i64 a] 1 hb (by unfold maxLen; omega) (by simp)
  unfold RowI
  simpa using h
theorem rowI_2 (w : World) (base n : Nat) (a b : Int) (hn : w.heap.size = n) (hb : base ≤ w.heap.size) : RowI base (.slice (some ⟨n, 0, none⟩) 2 2) [a, b] (w.alloc (.cells #[.int .i64 a, .int .i64 b] 3)) := by
  subst hn
  have h := World.ownsRow_lit (e := 3) (size := 1) w #[.int .i64 a, .int .i64 b] 2 hb (by unfold maxLen; omega) (by simp)
  unfold RowI
  simpa using h
set_option maxHeartbeats 1000000 in
theorem next1_any (n : Int) (b1 b2 b o nf fc k m cc : Nat) (ca : Option Addr) (w : World) (hnf : nf ≤ 17592186044416) (hk : k < nf) (hm : m ≤ 17592186044416) (h0 : w.cell? ⟨b1, 0, none⟩ = some (.slice (some ⟨b, o, none⟩) nf fc)) (h1 : w.cell? ⟨b2, 0, none⟩ = some (.int .i64 (k : Int)))
    (h2 : w.cell? ⟨b, o + k * 6 + 5, none⟩ = some (.slice ca m cc)) : Gives Tryz.prog 21 #[.int .i64 n, .pointer (some ⟨b1, 0, none⟩), .pointer (some ⟨b2, 0, none⟩)] w (.bool (decide ((m : Int) ≤ n))) := by
  unfold Gives
  go_enter Tryz.func21, Tryz.ntmps21
  go_wp2
  go_ret
  exact ⟨by simp, Below.refl _ _⟩

theorem RowI.lower {base base' : Nat} {v : Value} {l : List Int} {w : World} (h : RowI base v l w) (hb : base' ≤ base) : RowI base' v l w := by
  refine ⟨h.1, ?_⟩
  rcases h.2 with ⟨e, e2⟩ | ⟨g, cap, cur, e, hg, h3⟩
  · exact .inl ⟨e, e2⟩
  · exact .inr ⟨g, cap, cur, e, Nat.le_trans hb hg, h3⟩
/-- what can follow, in a program -/
def nxP (p : Pg) (f pc : Int) : List Int :=
  if ckPg p = 0 ∧ 0 ≤ f ∧ f < p.fs.length ∧ 0 ≤ pc ∧ pc < ((p.fs.getD f.toNat ⟨[], 0, 0, 0, false, []⟩).code).length then nxI ((p.fs.getD f.toNat ⟨[], 0, 0, 0, false, []⟩).code).length (insAt (p.fs.getD f.toNat ⟨[], 0, 0, 0, false, []⟩) pc.toNat) pc else []
set_option maxRecDepth 100000 in
set_option maxHeartbeats 4000000 in
theorem Next_any (p : Pg) (A : PA) (f pc : Int) (w : World) (h : PgAt w p A) (hf : i64 f) (hpc : i64 pc) :
    Calls Tryz.prog 9 #[PV p A, .int .i64 f, .int .i64 pc] w fun e w' => ∃ v, e = .returned v ∧ RowI w.heap.size v (nxP p f pc) w' ∧ Ext w w' := by
  have KC := Lib.hid (fun W (hW : Ext w W) => Check_any p A W (h.ext hW))
  have HF := Lib.hid (fun W (hW : Ext w W) => (h.ext hW).fs)
  have HWF := Lib.hid h.wf
  have hnf := h.wf.nf
  have hno := h.wf.no
  have hnv := h.wf.nv
  have HLC := Lib.hid (fun k (hk : k < p.fs.length) => (h.wf.fs _ (List.getElem_mem hk)).len)
  unfold i64 at hf hpc
  obtain ⟨fa, fc, oa, oc, va, vc⟩ := A
  dsimp only [PV] at KC HF ⊢
  obtain ⟨L, hL⟩ : ∃ L, nxP p f pc = L := ⟨_, rfl⟩
  rw [hL]
  have HL := Lib.hid hL
  clear h hL
  obtain ⟨ck, hck⟩ : ∃ c, ckPg p = c := ⟨_, rfl⟩
  rw [hck] at KC
  have HCK := Lib.hid hck
  clear hck
  obtain ⟨wk, hwk⟩ : ∃ W, W = ((w.alloc (.cells #[.slice fa p.fs.length fc, .slice oa p.os.length oc, .slice va p.vs.length vc] 26)).alloc (.cells #[.int .i64 f] 3)) := ⟨_, rfl⟩
  have BX := Lib.hid (show ∀ W, Ext wk W → (W.cell? ⟨w.heap.size, 0, none⟩ = some (.slice fa p.fs.length fc) ∧ W.cell? ⟨w.heap.size, 1, none⟩ = some (.slice oa p.os.length oc) ∧ W.cell? ⟨w.heap.size, 2, none⟩ = some (.slice va p.vs.length vc) ∧ W.cell? ⟨w.heap.size + 1, 0, none⟩ = some (.int .i64 f)) from fun W hW => by
    subst hwk
    have h0 := alloc_here w (.cells #[.slice fa p.fs.length fc, .slice oa p.os.length oc, .slice va p.vs.length vc] 26)
    have h0 := (Below.heap_alloc _ (.cells #[.int .i64 f] 3) _ (lt_of_block h0)).trans h0
    have k0 := (hW.below.block _ (lt_of_block h0)).trans h0
    have h1 := alloc_here (w.alloc (.cells #[.slice fa p.fs.length fc, .slice oa p.os.length oc, .slice va p.vs.length vc] 26)) (.cells #[.int .i64 f] 3)
    simp only [World.size_alloc] at h1
    have k1 := (hW.below.block _ (lt_of_block h1)).trans h1
    exact ⟨cell_of k0 rfl, cell_of k0 rfl, cell_of k0 rfl, cell_of k1 rfl⟩)
  have HWZ := Lib.hid (show wk.heap.size = w.heap.size + 2 by rw [hwk]; simp)
  have HW := Lib.hid (show Ext w wk by rw [hwk]; exact (ext_alloc (ext_alloc (Below.refl _ _) _) _))
  have HE0 := Lib.hid (show Ext wk wk from Below.refl _ _)
  go_enter Tryz.func9, Tryz.ntmps9
  go_wp2_with fail
  rw [← hwk]
  clear hwk
  refine (KC.out _ HW.out).mono ?_
  intro w1 hE
  have HE1 := Lib.hid (Ext.trans HE0.out hE)
  have HX1 := Lib.hid (Ext.trans HW.out HE1.out)
  clear hE
  obtain ⟨d0_0, d0_1, d0_2, d1_0⟩ := BX.out _ HE1.out
  by_cases hc : ck = 0
  case neg =>
    have HN := Lib.hid (show L = [] from by rw [← HL.out]; unfold nxP; rw [if_neg]; rintro ⟨h1, _⟩; exact hc (HCK.out.symm.trans h1))
    have hcb : (ck != 0) = true := bne_iff_ne.2 hc
    go_wp2
    go_ret
    exact ⟨_, rfl, by rw [HN.out]; exact RowI.nil _ _, HX1.out⟩
  case pos =>
    subst hc
    by_cases hf0 : 0 ≤ f
    case neg =>
      have HN := Lib.hid (show L = [] from by rw [← HL.out]; unfold nxP; rw [if_neg]; rintro ⟨_, h1, _⟩; exact hf0 h1)
      have hq : f < 0 := by omega
      go_wp2
      go_ret
      exact ⟨_, rfl, by rw [HN.out]; exact RowI.nil _ _, HX1.out⟩
    case pos =>
      obtain ⟨k, rfl⟩ := Int.eq_ofNat_of_zero_le hf0
      by_cases hf1 : k < p.fs.length
      case neg =>
        have HN := Lib.hid (show L = [] from by rw [← HL.out]; unfold nxP; rw [if_neg]; rintro ⟨_, _, h1, _⟩; omega)
        have hq : (p.fs.length : Int) ≤ (k : Int) := by omega
        go_wp2
        go_ret
        exact ⟨_, rfl, by rw [HN.out]; exact RowI.nil _ _, HX1.out⟩
      case pos =>
        obtain ⟨b0, off, ca, cc, hfa, hcs, hir⟩ := HF.out _ HX1.out k hf1
        try dsimp only at hfa
        subst hfa
        have HIR := Lib.hid hir
        have HCS := Lib.hid (fun W (hW : Ext w1 W) => (hcs.ext hW).c5)
        have hlc := HLC.out k hf1
        have HGD := Lib.hid (show p.fs.getD k ⟨[], 0, 0, 0, false, []⟩ = p.fs[k] from by simp [List.getD, hf1])
        have hb0 := cell_lt2 hcs.c0
        dsimp only at hb0
        clear hir hcs
        obtain ⟨g, hg⟩ : ∃ g, p.fs[k] = g := ⟨_, rfl⟩
        rw [hg] at HIR HCS hlc HGD
        clear hg HLC
        have c5 := HCS.out w1 (Below.refl _ _)
        by_cases hp0 : 0 ≤ pc
        case neg =>
          have HN := Lib.hid (show L = [] from by rw [← HL.out]; unfold nxP; rw [if_neg]; rintro ⟨_, _, _, h1, _⟩; exact hp0 h1)
          have hq : pc < 0 := by omega
          go_wp2
          go_ret
          exact ⟨_, rfl, by rw [HN.out]; exact RowI.nil _ _, HX1.out⟩
        case pos =>
          obtain ⟨j, rfl⟩ := Int.eq_ofNat_of_zero_le hp0
          by_cases hp1 : j < g.code.length
          case neg =>
            have HN := Lib.hid (show L = [] from by rw [← HL.out]; unfold nxP; rw [if_neg]; rintro ⟨_, _, _, _, h1⟩; rw [Int.toNat_natCast, HGD.out] at h1; omega)
            have hq : (g.code.length : Int) ≤ (j : Int) := by omega
            go_wp2
            go_ret
            exact ⟨_, rfl, by rw [HN.out]; exact RowI.nil _ _, HX1.out⟩
          case pos =>
            obtain ⟨b3, o3, aa, ac, ha3, hc3, hi3, hl3⟩ := HIR.out j hp1
            subst ha3
            have HLX := Lib.hid (show L = nxI g.code.length g.code[j] (j : Int) from by
              rw [← HL.out]; unfold nxP
              rw [if_pos ⟨HCK.out, hf0, by omega, hp0, by rw [Int.toNat_natCast, HGD.out]; omega⟩, Int.toNat_natCast, Int.toNat_natCast, HGD.out, insAt_eq hp1])
            have hd3 := cell_lt2 hc3.c0
            dsimp only at hd3
            obtain ⟨v0, v1, v2, v3, v4⟩ := hc3
            clear hi3 hl3 HGD
            generalize g.code[j] = y at *
            have HXA := Lib.hid (fun o => (show Ext wk (w1.alloc o) from ext_alloc HE1.out o))
            obtain ⟨m, hm⟩ : ∃ m, g.code.length = m := ⟨_, rfl⟩
            rw [hm] at HCS HLX hlc hp1 c5
            clear hm HIR
            have hsz1 : w.heap.size + 2 ≤ w1.heap.size := by have h1 := HE1.out.size; have h2 := HWZ.out; omega
            have KD := Lib.hid (fun (n : Int) W (hW : Ext w1 W) => show Gives Tryz.prog 21 #[.int .i64 n, .pointer (some ⟨w.heap.size, 0, none⟩), .pointer (some ⟨w.heap.size + 1, 0, none⟩)] W (.bool (decide ((m : Int) ≤ n))) from by
              have hb := BX.out W (Ext.trans HE1.out hW)
              exact next1_any n w.heap.size (w.heap.size + 1) b0 off p.fs.length fc k m cc _ W hnf hf1 hlc hb.1 hb.2.2.2 (HCS.out W hW))
            by_cases h16 : y.op = 16
            case pos =>
              have q16 : (y.op == 16) = true := beq_iff_eq.2 h16
              have HNX := Lib.hid (show nxI m y (j : Int) = asc (delI (fun n => decide ((m : Int) ≤ n)) []) from by unfold nxI nxL; simp [*])
              clear HL
              go_wp2_with fail
              have HA2 := Lib.hid (show Ext w1 (w1.alloc (.cells #[.int .i64 16, .int .i64 y.a, .int .i64 y.b, .int .i64 y.c, .slice aa y.args.length ac] 50)) from ext_alloc (Below.refl _ _) _)
              refine (DelN_any (.pointer (some ⟨w.heap.size, 0, none⟩)) (.pointer (some ⟨w.heap.size + 1, 0, none⟩)) (fun n => decide ((m : Int) ≤ n)) [] w1.heap.size _ _ (by simp) (RowI.nil _ _) HA2.out.size (fun n W hW => KD.out n W (Below.trans HA2.out hW))).mono ?_
              rintro _ w3 ⟨v3', rfl, hR, hE⟩
              have HE3 := Lib.hid (Below.trans HA2.out hE)
              obtain ⟨a3, c3, rfl, hI, _, _⟩ := hR.ints
              have K4 := Lib.hid (ascending_any _ a3 c3 w3 (Nat.le_trans (delI_len _ _) (by simp)) hI)
              clear hR hE hI
              go_wp2_with fail
              refine K4.out.mono ?_
              rintro _ w4 ⟨v4', rfl, hR, hE⟩
              have HR4 := Lib.hid hR
              have HE4 := Lib.hid (Ext.trans HX1.out (Below.trans HE3.out (hE.mono HE3.out.size)))
              clear hR hE
              go_wp2
              go_ret
              exact ⟨_, rfl, by rw [HLX.out, HNX.out]; exact (show RowI w.heap.size _ _ _ from RowI.lower HR4.out (by have := HE3.out.size; omega)), HE4.out⟩
            case neg =>
              by_cases h21 : y.op = 21
              case pos =>
                have q16 : (y.op == 16) = false := beq_eq_false_iff_ne.2 h16
                have q21 : (y.op == 21) = true := beq_iff_eq.2 h21
                have HNX := Lib.hid (show nxI m y (j : Int) = asc (delI (fun n => decide ((m : Int) ≤ n)) []) from by unfold nxI nxL; simp [*])
                clear HL
                go_wp2_with fail
                have HA2 := Lib.hid (show Ext w1 (w1.alloc (.cells #[.int .i64 21, .int .i64 y.a, .int .i64 y.b, .int .i64 y.c, .slice aa y.args.length ac] 50)) from ext_alloc (Below.refl _ _) _)
                refine (DelN_any (.pointer (some ⟨w.heap.size, 0, none⟩)) (.pointer (some ⟨w.heap.size + 1, 0, none⟩)) (fun n => decide ((m : Int) ≤ n)) [] w1.heap.size _ _ (by simp) (RowI.nil _ _) HA2.out.size (fun n W hW => KD.out n W (Below.trans HA2.out hW))).mono ?_
                rintro _ w3 ⟨v3', rfl, hR, hE⟩
                have HE3 := Lib.hid (Below.trans HA2.out hE)
                obtain ⟨a3, c3, rfl, hI, _, _⟩ := hR.ints
                have K4 := Lib.hid (ascending_any _ a3 c3 w3 (Nat.le_trans (delI_len _ _) (by simp)) hI)
                clear hR hE hI
                go_wp2_with fail
                refine K4.out.mono ?_
                rintro _ w4 ⟨v4', rfl, hR, hE⟩
                have HR4 := Lib.hid hR
                have HE4 := Lib.hid (Ext.trans HX1.out (Below.trans HE3.out (hE.mono HE3.out.size)))
                clear hR hE
                go_wp2
                go_ret
                exact ⟨_, rfl, by rw [HLX.out, HNX.out]; exact (show RowI w.heap.size _ _ _ from RowI.lower HR4.out (by have := HE3.out.size; omega)), HE4.out⟩
              case neg =>
                by_cases h13 : y.op = 13
                case pos =>
                  have q16 : (y.op == 16) = false := beq_eq_false_iff_ne.2 h16
                  have q21 : (y.op == 21) = false := beq_eq_false_iff_ne.2 h21
                  have q13 : (y.op == 13) = true := beq_iff_eq.2 h13
                  have HNX := Lib.hid (show nxI m y (j : Int) = asc (delI (fun n => decide ((m : Int) ≤ n)) [y.a]) from by unfold nxI nxL; simp [*])
                  clear HL
                  go_wp2_with fail
                  have HA1 := Lib.hid (show Ext w1 (w1.alloc (.cells #[.int .i64 13, .int .i64 y.a, .int .i64 y.b, .int .i64 y.c, .slice aa y.args.length ac] 50)) from ext_alloc (Below.refl _ _) _)
                  have HA2 := Lib.hid (show Ext w1 ((w1.alloc (.cells #[.int .i64 13, .int .i64 y.a, .int .i64 y.b, .int .i64 y.c, .slice aa y.args.length ac] 50)).alloc (.cells #[.int .i64 y.a] 3)) from ext_alloc HA1.out _)
                  have HRW := Lib.hid (rowI_1 (w1.alloc (.cells #[.int .i64 13, .int .i64 y.a, .int .i64 y.b, .int .i64 y.c, .slice aa y.args.length ac] 50)) w1.heap.size (w1.heap.size + 1) (y.a) (by simp) HA1.out.size)
                  refine (DelN_any (.pointer (some ⟨w.heap.size, 0, none⟩)) (.pointer (some ⟨w.heap.size + 1, 0, none⟩)) (fun n => decide ((m : Int) ≤ n)) [y.a] w1.heap.size _ _ (by simp) HRW.out HA2.out.size (fun n W hW => KD.out n W (Below.trans HA2.out hW))).mono ?_
                  rintro _ w3 ⟨v3', rfl, hR, hE⟩
                  have HE3 := Lib.hid (Below.trans HA2.out hE)
                  obtain ⟨a3, c3, rfl, hI, _, _⟩ := hR.ints
                  have K4 := Lib.hid (ascending_any _ a3 c3 w3 (Nat.le_trans (delI_len _ _) (by simp)) hI)
                  clear hR hE hI
                  go_wp2_with fail
                  refine K4.out.mono ?_
                  rintro _ w4 ⟨v4', rfl, hR, hE⟩
                  have HR4 := Lib.hid hR
                  have HE4 := Lib.hid (Ext.trans HX1.out (Below.trans HE3.out (hE.mono HE3.out.size)))
                  clear hR hE
                  go_wp2
                  go_ret
                  exact ⟨_, rfl, by rw [HLX.out, HNX.out]; exact (show RowI w.heap.size _ _ _ from RowI.lower HR4.out (by have := HE3.out.size; omega)), HE4.out⟩
                case neg =>
                  by_cases h14 : y.op = 14
                  case pos =>
                    have q16 : (y.op == 16) = false := beq_eq_false_iff_ne.2 h16
                    have q21 : (y.op == 21) = false := beq_eq_false_iff_ne.2 h21
                    have q13 : (y.op == 13) = false := beq_eq_false_iff_ne.2 h13
                    have q14 : (y.op == 14) = true := beq_iff_eq.2 h14
                    have HNX := Lib.hid (show nxI m y (j : Int) = asc (delI (fun n => decide ((m : Int) ≤ n)) [(j : Int) + 1, y.b]) from by unfold nxI nxL; simp [*])
                    clear HL
                    go_wp2_with fail
                    have HA1 := Lib.hid (show Ext w1 (w1.alloc (.cells #[.int .i64 14, .int .i64 y.a, .int .i64 y.b, .int .i64 y.c, .slice aa y.args.length ac] 50)) from ext_alloc (Below.refl _ _) _)
                    have HA2 := Lib.hid (show Ext w1 ((w1.alloc (.cells #[.int .i64 14, .int .i64 y.a, .int .i64 y.b, .int .i64 y.c, .slice aa y.args.length ac] 50)).alloc (.cells #[.int .i64 ((j : Int) + 1), .int .i64 y.b] 3)) from ext_alloc HA1.out _)
                    have HRW := Lib.hid (rowI_2 (w1.alloc (.cells #[.int .i64 14, .int .i64 y.a, .int .i64 y.b, .int .i64 y.c, .slice aa y.args.length ac] 50)) w1.heap.size (w1.heap.size + 1) ((j : Int) + 1) (y.b) (by simp) HA1.out.size)
                    refine (DelN_any (.pointer (some ⟨w.heap.size, 0, none⟩)) (.pointer (some ⟨w.heap.size + 1, 0, none⟩)) (fun n => decide ((m : Int) ≤ n)) [(j : Int) + 1, y.b] w1.heap.size _ _ (by simp) HRW.out HA2.out.size (fun n W hW => KD.out n W (Below.trans HA2.out hW))).mono ?_
                    rintro _ w3 ⟨v3', rfl, hR, hE⟩
                    have HE3 := Lib.hid (Below.trans HA2.out hE)
                    obtain ⟨a3, c3, rfl, hI, _, _⟩ := hR.ints
                    have K4 := Lib.hid (ascending_any _ a3 c3 w3 (Nat.le_trans (delI_len _ _) (by simp)) hI)
                    clear hR hE hI
                    go_wp2_with fail
                    refine K4.out.mono ?_
                    rintro _ w4 ⟨v4', rfl, hR, hE⟩
                    have HR4 := Lib.hid hR
                    have HE4 := Lib.hid (Ext.trans HX1.out (Below.trans HE3.out (hE.mono HE3.out.size)))
                    clear hR hE
                    go_wp2
                    go_ret
                    exact ⟨_, rfl, by rw [HLX.out, HNX.out]; exact (show RowI w.heap.size _ _ _ from RowI.lower HR4.out (by have := HE3.out.size; omega)), HE4.out⟩
                  case neg =>
                    by_cases h35 : y.op = 35
                    case pos =>
                      have q16 : (y.op == 16) = false := beq_eq_false_iff_ne.2 h16
                      have q21 : (y.op == 21) = false := beq_eq_false_iff_ne.2 h21
                      have q13 : (y.op == 13) = false := beq_eq_false_iff_ne.2 h13
                      have q14 : (y.op == 14) = false := beq_eq_false_iff_ne.2 h14
                      have q35 : (y.op == 35) = true := beq_iff_eq.2 h35
                      have HNX := Lib.hid (show nxI m y (j : Int) = asc (delI (fun n => decide ((m : Int) ≤ n)) [(j : Int) + 1, y.c]) from by unfold nxI nxL; simp [*])
                      clear HL
                      go_wp2_with fail
                      have HA1 := Lib.hid (show Ext w1 (w1.alloc (.cells #[.int .i64 35, .int .i64 y.a, .int .i64 y.b, .int .i64 y.c, .slice aa y.args.length ac] 50)) from ext_alloc (Below.refl _ _) _)
                      have HA2 := Lib.hid (show Ext w1 ((w1.alloc (.cells #[.int .i64 35, .int .i64 y.a, .int .i64 y.b, .int .i64 y.c, .slice aa y.args.length ac] 50)).alloc (.cells #[.int .i64 ((j : Int) + 1), .int .i64 y.c] 3)) from ext_alloc HA1.out _)
                      have HRW := Lib.hid (rowI_2 (w1.alloc (.cells #[.int .i64 35, .int .i64 y.a, .int .i64 y.b, .int .i64 y.c, .slice aa y.args.length ac] 50)) w1.heap.size (w1.heap.size + 1) ((j : Int) + 1) (y.c) (by simp) HA1.out.size)
                      refine (DelN_any (.pointer (some ⟨w.heap.size, 0, none⟩)) (.pointer (some ⟨w.heap.size + 1, 0, none⟩)) (fun n => decide ((m : Int) ≤ n)) [(j : Int) + 1, y.c] w1.heap.size _ _ (by simp) HRW.out HA2.out.size (fun n W hW => KD.out n W (Below.trans HA2.out hW))).mono ?_
                      rintro _ w3 ⟨v3', rfl, hR, hE⟩
                      have HE3 := Lib.hid (Below.trans HA2.out hE)
                      obtain ⟨a3, c3, rfl, hI, _, _⟩ := hR.ints
                      have K4 := Lib.hid (ascending_any _ a3 c3 w3 (Nat.le_trans (delI_len _ _) (by simp)) hI)
                      clear hR hE hI
                      go_wp2_with fail
                      refine K4.out.mono ?_
                      rintro _ w4 ⟨v4', rfl, hR, hE⟩
                      have HR4 := Lib.hid hR
                      have HE4 := Lib.hid (Ext.trans HX1.out (Below.trans HE3.out (hE.mono HE3.out.size)))
                      clear hR hE
                      go_wp2
                      go_ret
                      exact ⟨_, rfl, by rw [HLX.out, HNX.out]; exact (show RowI w.heap.size _ _ _ from RowI.lower HR4.out (by have := HE3.out.size; omega)), HE4.out⟩
                    case neg =>
                      have q16 : (y.op == 16) = false := beq_eq_false_iff_ne.2 h16
                      have q21 : (y.op == 21) = false := beq_eq_false_iff_ne.2 h21
                      have q13 : (y.op == 13) = false := beq_eq_false_iff_ne.2 h13
                      have q14 : (y.op == 14) = false := beq_eq_false_iff_ne.2 h14
                      have q35 : (y.op == 35) = false := beq_eq_false_iff_ne.2 h35
                      have HNX := Lib.hid (show nxI m y (j : Int) = asc (delI (fun n => decide ((m : Int) ≤ n)) [(j : Int) + 1]) from by unfold nxI nxL; simp [*])
                      clear HL
                      go_wp2_with fail
                      have HA1 := Lib.hid (show Ext w1 (w1.alloc (.cells #[.int .i64 y.op, .int .i64 y.a, .int .i64 y.b, .int .i64 y.c, .slice aa y.args.length ac] 50)) from ext_alloc (Below.refl _ _) _)
                      have HA2 := Lib.hid (show Ext w1 ((w1.alloc (.cells #[.int .i64 y.op, .int .i64 y.a, .int .i64 y.b, .int .i64 y.c, .slice aa y.args.length ac] 50)).alloc (.cells #[.int .i64 ((j : Int) + 1)] 3)) from ext_alloc HA1.out _)
                      have HRW := Lib.hid (rowI_1 (w1.alloc (.cells #[.int .i64 y.op, .int .i64 y.a, .int .i64 y.b, .int .i64 y.c, .slice aa y.args.length ac] 50)) w1.heap.size (w1.heap.size + 1) ((j : Int) + 1) (by simp) HA1.out.size)
                      refine (DelN_any (.pointer (some ⟨w.heap.size, 0, none⟩)) (.pointer (some ⟨w.heap.size + 1, 0, none⟩)) (fun n => decide ((m : Int) ≤ n)) [(j : Int) + 1] w1.heap.size _ _ (by simp) HRW.out HA2.out.size (fun n W hW => KD.out n W (Below.trans HA2.out hW))).mono ?_
                      rintro _ w3 ⟨v3', rfl, hR, hE⟩
                      have HE3 := Lib.hid (Below.trans HA2.out hE)
                      obtain ⟨a3, c3, rfl, hI, _, _⟩ := hR.ints
                      have K4 := Lib.hid (ascending_any _ a3 c3 w3 (Nat.le_trans (delI_len _ _) (by simp)) hI)
                      clear hR hE hI
                      go_wp2_with fail
                      refine K4.out.mono ?_
                      rintro _ w4 ⟨v4', rfl, hR, hE⟩
                      have HR4 := Lib.hid hR
                      have HE4 := Lib.hid (Ext.trans HX1.out (Below.trans HE3.out (hE.mono HE3.out.size)))
                      clear hR hE
                      go_wp2
                      go_ret
                      exact ⟨_, rfl, by rw [HLX.out, HNX.out]; exact (show RowI w.heap.size _ _ _ from RowI.lower HR4.out (by have := HE3.out.size; omega)), HE4.out⟩

end Go.Proofs.YtfkjokbhnblndaaGreatDoor

namespace Go.Proofs.YtfkjokbhnblndaaGreatDoor
open Go.RowKit
set_option linter.unusedVariables false
set_option linter.unusedSimpArgs false

def stepI (n : Int) (s : List Int × Bool) (x : Int) : List Int × Bool := if s.2 = false ∧ n < x then (s.1 ++ [n] ++ [x], true) else (s.1 ++ [x], s.2)
def sI (l : List Int) (n : Int) (k : Nat) : List Int × Bool := (l.take k).foldl (stepI n) ([], n == -1)
theorem sI_succ {l : List Int} {n : Int} {k : Nat} (h : k < l.length) : sI l n (k + 1) = stepI n (sI l n k) l[k] := by
  unfold sI
  rw [List.take_succ_eq_append_getElem h, List.foldl_append]
  rfl
theorem stepI_len (n : Int) (s : List Int × Bool) (x : Int) : (stepI n s x).1.length + (if (stepI n s x).2 then 0 else 1) ≤ s.1.length + (if s.2 then 0 else 1) + 1 := by
  unfold stepI
  split
  · rename_i h; rw [h.1]; simp
  · simp; omega
theorem sI_len (l : List Int) (n : Int) : ∀ k, k ≤ l.length → (sI l n k).1.length + (if (sI l n k).2 then 0 else 1) ≤ k + 1
  | 0, _ => by simp [sI]; split <;> simp
  | k + 1, hk => by
    have h1 := sI_len l n k (by omega)
    have h2 := stepI_len n (sI l n k) (l[k])
    rw [sI_succ (by omega)]
    omega
/-- a number into a list, in its place -/
def insR (l : List Int) (n : Int) : List Int := if l.contains n then l else if (sI l n l.length).2 then (sI l n l.length).1 else (sI l n l.length).1 ++ [n]
theorem insR_yes {l : List Int} {n : Int} {k : Nat} (hk : k < l.length) (h : (l[k] == n) = true) : insR l n = l := by
  unfold insR
  rw [if_pos]
  have h1 : l[k] = n := beq_iff_eq.1 h
  rw [← h1]
  simp
theorem insR_no {l : List Int} {n : Int} (h : noI (fun x => x == n) l l.length = true) : insR l n = if (sI l n l.length).2 then (sI l n l.length).1 else (sI l n l.length).1 ++ [n] := by
  unfold insR
  rw [if_neg]
  intro hc
  rw [List.contains_iff_mem] at hc
  unfold noI at h
  rw [List.take_length] at h
  have := List.all_eq_true.1 h n hc
  simp at this

/-- a slice of integers comes back, old memory stays -/
def RetI (w : World) (l : List Int) (e : Ending) (w' : World) : Prop := ∃ a' c', e = .returned (.slice a' l.length c') ∧ IntsAt w' a' l ∧ Ext w w'
set_option maxRecDepth 100000 in
set_option maxHeartbeats 4000000 in
theorem insert_any (l : List Int) (n : Int) (a : Option Addr) (c : Nat) (w : World) (hl : l.length ≤ 1000000000) (hA : IntsAt w a l) :
    Calls Tryz.prog 24 #[.slice a l.length c, .int .i64 n] w (RetI w (insR l n)) := by
  have HA := Lib.hid hA
  have HY := Lib.hid (fun k (hk : k < l.length) (h : (l[k] == n) = true) => insR_yes hk h)
  have HN := Lib.hid (fun h => insR_no (l := l) (n := n) h)
  have HS := Lib.hid (fun k (hk : k < l.length) => sI_succ (n := n) hk)
  have HLN := Lib.hid (sI_len l n)
  have HNO := Lib.hid (noI_succ (fun x => x == n) l)
  have HR0 := Lib.hid (RowI.empty w w.heap.size (Nat.le_refl _))
  have HE0 := Lib.hid (show Ext w (w.alloc (.cells #[] 3)) from ext_alloc (Below.refl _ _) _)
  have HS0 := Lib.hid (show sI l n 0 = ([], n == -1) from rfl)
  clear hA
  generalize sI l n = S at *
  generalize insR l n = RES at *
  go_enter Tryz.func24, Tryz.ntmps24
  go_wp2
  go_loopw [5, 6, 7] (fun v d i wr => ∃ k : Nat, k ≤ l.length ∧ i = .int .i64 (k : Int) ∧ d = .bool (S k).2 ∧ RowI w.heap.size v (S k).1 wr ∧ noI (fun x => x == n) l k = true ∧ Ext w wr) (fun _ _ i _ => l.length - (intOf i).toNat)
  case atStart => exact ⟨0, Nat.zero_le _, rfl, by rw [HS0.out], by rw [HS0.out]; exact HR0.out, rfl, HE0.out⟩
  case round =>
    obtain ⟨k, hk, rfl, rfl, hR, hq, hE⟩ := hrel
    have HR := Lib.hid hR
    have HQ := Lib.hid hq
    have HE := Lib.hid hE
    have hz1 : w.heap.size ≤ wr.heap.size := hE.size
    have hln : (S k).1.length + 2 ≤ 10000000000 := by have := HLN.out k hk; omega
    by_cases hlt : k < l.length
    · obtain ⟨b, off, rfl, hcw⟩ := HA.out k hlt
      have hbw : b < w.heap.size := cell_lt hcw
      have hc0 := (hE.below.cell (p := ⟨b, off + k, none⟩) hbw).trans hcw
      have HY1 := Lib.hid (HY.out k hlt)
      have HS1 := Lib.hid (HS.out k hlt)
      have HN1 := Lib.hid (HNO.out k hlt)
      clear hR hq hE
      generalize l[k] = x at *
      cases hx : (x == n) with
      | true =>
        have HR1 := Lib.hid (HY1.out hx)
        have HAA := Lib.hid (HA.out.below HE.out)
        clear HN HS HLN HNO HY HY1 HS1 HN1 HR HS0 HR0
        go_wp2
        go_ret
        exact ⟨_, _, by rw [HR1.out]; rfl, by rw [HR1.out]; exact HAA.out, HE.out⟩
      | false =>
        have HN2 := Lib.hid (show noI (fun x => x == n) l (k + 1) = true by rw [HN1.out, HQ.out]; simp [hx])
        rcases hS : S k with ⟨out, d⟩
        rw [hS] at HR hln HS1
        dsimp only at HR hln ⊢
        have HLO := Lib.hid (show out.length ≤ 10000000000 from by omega)
        by_cases hd : d = false ∧ n < x
        · obtain ⟨rfl, hnx⟩ := hd
          have HL3 := Lib.hid (show (out ++ [n]).length ≤ 10000000000 from by simp; omega)
          have HS2 := Lib.hid (show S (k + 1) = (out ++ [n] ++ [x], true) by rw [HS1.out]; unfold stepI; rw [if_pos ⟨rfl, hnx⟩])
          have tok1 : True := trivial
          clear HS1 HN1 HY1 hS
          go_wp2_with (first | (at_builtin; have _t := tok1; clear tok1 _t; go_loud (refine wp_appI rfl _ _ (by rfl) w.heap.size _ _ (by rfl) _ HR.out n (by rfl) HLO.out hz1 ?_); intro v' w3 hR3 hB3; have HR3 := Lib.hid hR3; have HB3 := Lib.hid (Below.trans HE.out hB3); have hz3 : w.heap.size ≤ w3.heap.size := HB3.out.size; have hc0 := (hB3.cell (p := ⟨b, off + k, none⟩) hbw).trans hc0; clear hR3 hB3; have tok2 : True := trivial) | (at_builtin; have _t := tok2; clear tok2 _t; go_loud (refine wp_appI rfl _ _ (by rfl) w.heap.size _ _ (by rfl) _ HR3.out x (by rfl) HL3.out hz3 ?_); intro v' w4 hR4 hB4; have HR4 := Lib.hid hR4; have HB4 := Lib.hid (Below.trans HB3.out hB4); clear hR4 hB4))
          go_roundw
          case rel => exact ⟨k + 1, by omega, by go_num, by rw [HS2.out], by rw [HS2.out]; exact HR4.out, HN2.out, HB4.out⟩
          case measure => simp [intOf]; omega
        · have HS2 := Lib.hid (show S (k + 1) = (out ++ [x], d) by rw [HS1.out]; unfold stepI; rw [if_neg hd])
          clear HS1 HN1 HY1 hS
          cases d with
          | true =>
            go_wp2_with (at_builtin; go_loud (refine wp_appI rfl _ _ (by rfl) w.heap.size _ _ (by rfl) _ HR.out x (by rfl) HLO.out hz1 ?_); intro v' w3 hR3 hB3; have HR3 := Lib.hid hR3; have HB3 := Lib.hid (Below.trans HE.out hB3); clear hR3 hB3)
            go_roundw
            case rel => exact ⟨k + 1, by omega, by go_num, by rw [HS2.out], by rw [HS2.out]; exact HR3.out, HN2.out, HB3.out⟩
            case measure => simp [intOf]; omega
          | false =>
            have hnx : ¬ n < x := fun h => hd ⟨rfl, h⟩
            go_wp2_with (at_builtin; go_loud (refine wp_appI rfl _ _ (by rfl) w.heap.size _ _ (by rfl) _ HR.out x (by rfl) HLO.out hz1 ?_); intro v' w3 hR3 hB3; have HR3 := Lib.hid hR3; have HB3 := Lib.hid (Below.trans HE.out hB3); clear hR3 hB3)
            go_roundw
            case rel => exact ⟨k + 1, by omega, by go_num, by rw [HS2.out], by rw [HS2.out]; exact HR3.out, HN2.out, HB3.out⟩
            case measure => simp [intOf]; omega
    · obtain rfl : k = l.length := by omega
      have HRES := Lib.hid (HN.out HQ.out)
      rcases hS : S l.length with ⟨out, d⟩
      rw [hS] at HR hln HRES
      dsimp only at HR hln ⊢
      have HLO := Lib.hid (show out.length ≤ 10000000000 from by omega)
      clear hR hq hE hS
      cases d with
      | true =>
        have HF := Lib.hid (show RES = out from by rw [HRES.out]; simp)
        obtain ⟨a', c', rfl, hI, _, _⟩ := HR.out.ints
        have HI := Lib.hid hI
        clear hI
        go_wp2
        go_ret
        exact ⟨a', c', by rw [HF.out]; rfl, by rw [HF.out]; exact HI.out, HE.out⟩
      | false =>
        have HF := Lib.hid (show RES = out ++ [n] from by rw [HRES.out]; simp)
        go_wp2_with (at_builtin; go_loud (refine wp_appI rfl _ _ (by rfl) w.heap.size _ _ (by rfl) _ HR.out n (by rfl) HLO.out hz1 ?_); intro v' w3 hR3 hB3; have HR3 := Lib.hid hR3; have HB3 := Lib.hid (Below.trans HE.out hB3); clear hR3 hB3)
        obtain ⟨a', c', rfl, hI, _, _⟩ := HR3.out.ints
        have HI := Lib.hid hI
        clear hI
        go_ret
        exact ⟨a', c', by rw [HF.out]; rfl, by rw [HF.out]; exact HI.out, HB3.out⟩
end Go.Proofs.YtfkjokbhnblndaaGreatDoor

namespace Go.Proofs.YtfkjokbhnblndaaGreatDoor
open Go.RowKit
set_option linter.unusedVariables false
variable {ops : Array Oper} {rest : List Oper} {o : Oper} {a : Act} {Q : Exit → Act → World → Prop}
theorem wp_appJ (hgd : o.guard = none) (s x : Operand) (ho : o.op = .call { callee := .builtin .append, args := #[s, x], argTypes := #[29, 29] })
    (base : Nat) (v : Value) (l : List Int) (hs : a.eval s = v) (W : World) (h : RowI base v l W) (n : Int) (hx : a.eval x = .slice (some ⟨W.heap.size, 0, none⟩) 1 1) (hlen : l.length ≤ 10000000000) (hbase : base ≤ W.heap.size)
    (hK : ∀ v' w', RowI base v' (l ++ [n]) w' → Below base W w' → (∀ j, j < W.heap.size → v.ownBlock ≠ some j → w'.heap[j]? = W.heap[j]?) → wpList Tryz.prog ops Q rest (a.put o.dst v') w') : wpList Tryz.prog ops Q (o :: rest) a (W.alloc (.cells #[.int .i64 n] 3)) := by
  obtain ⟨i0, hi, hz0, hz1, hz2⟩ := info_parts infoI'
  refine wpList_append_own _ hgd s x 29 ho base 3 i0 (.int .i64 0) 1 8 Tryz.underlying29 hi hz0 hz1 hz2 rfl (by decide) v l.length (l.map (Value.int .i64)) hs (World.ownsRow.alloc h _) ⟨W.heap.size, 0, none⟩ 1 1 [.int .i64 n] hx rfl (cell_one_new _ _ _) (by simp [Value.oneCell']) (by unfold maxLen; omega) (by omega) (by simp; omega) ?_
  intro v' w' hown hg _
  refine hK v' w' ?_ ?_ (fun j hj hne => (hg.block j (by simp; omega) (fun e => hne e.symm)).trans ((Below.heap_alloc _ _ _ hj)))
  · unfold RowI
    simpa using hown
  · exact ((Below.refl base W).alloc hbase _).grown hg (by simp; omega) (fun k e => (World.ownsRow.lt h k e).1)

end Go.Proofs.YtfkjokbhnblndaaGreatDoor

namespace Go.Proofs.YtfkjokbhnblndaaGreatDoor
open Go.RowKit
set_option linter.unusedVariables false
set_option linter.unusedSimpArgs false

def rnO (n : Nat) (pc : Int) : List Int := if pc + 1 < (n : Int) then [pc + 1] else []
def rnI (n : Nat) (x : Ins) (pc : Int) : List Int :=
  if x.op = 16 ∨ x.op = 21 then [] else if x.op = 13 then [x.a] else if x.op = 14 then insR (rnO n pc) x.b else if x.op = 35 then insR (rnO n pc) x.c else rnO n pc
def rnP (p : Pg) (f pc : Int) : List Int :=
  if ckPg p = 0 ∧ 0 ≤ f ∧ f < p.fs.length ∧ 0 ≤ pc ∧ pc < ((p.fs.getD f.toNat ⟨[], 0, 0, 0, false, []⟩).code).length then rnI ((p.fs.getD f.toNat ⟨[], 0, 0, 0, false, []⟩).code).length (insAt (p.fs.getD f.toNat ⟨[], 0, 0, 0, false, []⟩) pc.toNat) pc else []

theorem rowI_lit' (w : World) (l : List Int) : IntsAt (w.alloc (.cells (l.map (Value.int .i64)).toArray 3)) (some ⟨w.heap.size, 0, none⟩) l := ints_alloc w l _
set_option maxRecDepth 100000 in
set_option maxHeartbeats 4000000 in
theorem refNext_any (p : Pg) (A : PA) (f pc : Int) (w : World) (h : PgAt w p A) (hf : i64 f) (hpc : i64 pc) :
    Calls Tryz.prog 10 #[PV p A, .int .i64 f, .int .i64 pc] w (RetI w (rnP p f pc)) := by
  have KC := Lib.hid (fun W (hW : Ext w W) => refCk_any p A W (h.ext hW))
  have HF := Lib.hid (fun W (hW : Ext w W) => (h.ext hW).fs)
  have hnf := h.wf.nf
  have hno := h.wf.no
  have hnv := h.wf.nv
  have HLC := Lib.hid (fun k (hk : k < p.fs.length) => (h.wf.fs _ (List.getElem_mem hk)).len)
  unfold i64 at hf hpc
  obtain ⟨fa, fc, oa, oc, va, vc⟩ := A
  dsimp only [PV] at KC HF ⊢
  obtain ⟨L, hL⟩ : ∃ L, rnP p f pc = L := ⟨_, rfl⟩
  rw [hL]
  have HL := Lib.hid hL
  clear h hL
  obtain ⟨ck, hck⟩ : ∃ c, ckPg p = c := ⟨_, rfl⟩
  rw [hck] at KC
  have HCK := Lib.hid hck
  clear hck
  obtain ⟨wk, hwk⟩ : ∃ W, W = (w.alloc (.cells #[.slice fa p.fs.length fc, .slice oa p.os.length oc, .slice va p.vs.length vc] 26)) := ⟨_, rfl⟩
  have BX := Lib.hid (show ∀ W, Ext wk W → (W.cell? ⟨w.heap.size, 0, none⟩ = some (.slice fa p.fs.length fc) ∧ W.cell? ⟨w.heap.size, 1, none⟩ = some (.slice oa p.os.length oc) ∧ W.cell? ⟨w.heap.size, 2, none⟩ = some (.slice va p.vs.length vc)) from fun W hW => by
    subst hwk
    have h0 := alloc_here w (.cells #[.slice fa p.fs.length fc, .slice oa p.os.length oc, .slice va p.vs.length vc] 26)
    have k0 := (hW.below.block _ (lt_of_block h0)).trans h0
    exact ⟨cell_of k0 rfl, cell_of k0 rfl, cell_of k0 rfl⟩)
  have HWZ := Lib.hid (show wk.heap.size = w.heap.size + 1 by rw [hwk]; simp)
  have HW := Lib.hid (show Ext w wk by rw [hwk]; exact (ext_alloc (Below.refl _ _) _))
  have HE0 := Lib.hid (show Ext wk wk from Below.refl _ _)
  go_enter Tryz.func10, Tryz.ntmps10
  go_wp2_with fail
  rw [← hwk]
  clear hwk
  have HEI := Lib.hid (show Ext wk (wk.alloc (.cells #[] 3)) from ext_alloc (Below.refl _ _) _)
  have HRI := Lib.hid (RowI.empty wk w.heap.size (by rw [HWZ.out]; omega))
  rw [HWZ.out] at HRI
  generalize wk.alloc (.cells #[] 3) = w0 at *
  refine (KC.out _ (Ext.trans HW.out HEI.out)).mono ?_
  intro w1 hE
  have HE1 := Lib.hid (Ext.trans HEI.out hE)
  have HX1 := Lib.hid (Ext.trans HW.out HE1.out)
  have HR1 := Lib.hid (HRI.out.ext hE)
  clear hE HRI HEI
  obtain ⟨d0_0, d0_1, d0_2⟩ := BX.out _ HE1.out
  by_cases hc : ck = 0
  case neg =>
    have HN := Lib.hid (show L = [] from by rw [← HL.out]; unfold rnP; rw [if_neg]; rintro ⟨h1, _⟩; exact hc (HCK.out.symm.trans h1))
    have hcb : (ck != 0) = true := bne_iff_ne.2 hc
    go_wp2
    go_ret
    exact ⟨_, _, by rw [HN.out]; rfl, by rw [HN.out]; exact IntsAt.nil, HX1.out⟩
  case pos =>
    subst hc
    go_wp2_with fail
    refine Calls.mono (between_any _ _ _ _) ?_
    rintro _ w5 ⟨rfl, hw5⟩
    rw [hw5]
    clear hw5 w5
    obtain ⟨r1, hr1⟩ : ∃ r, inB f 0 ((p.fs.length : Int) - 1) = r := ⟨_, rfl⟩
    rw [hr1]
    by_cases hf1 : 0 ≤ f ∧ f < p.fs.length
    case neg =>
      have HN := Lib.hid (show L = [] from by rw [← HL.out]; unfold rnP; rw [if_neg]; rintro ⟨_, h1, h2, _⟩; exact hf1 ⟨h1, h2⟩)
      obtain rfl : r1 = false := by rw [← hr1]; simp only [inB, decide_eq_false_iff_not]; omega
      clear hr1
      go_wp2
      go_ret
      exact ⟨_, _, by rw [HN.out]; rfl, by rw [HN.out]; exact IntsAt.nil, HX1.out⟩
    case pos =>
      obtain rfl : r1 = true := by rw [← hr1]; simp only [inB, decide_eq_true_eq]; omega
      clear hr1
      obtain ⟨hf0, hf1⟩ := hf1
      obtain ⟨k, rfl⟩ := Int.eq_ofNat_of_zero_le hf0
      have hf1 : k < p.fs.length := by omega
      obtain ⟨b0, off, ca, cc, hfa, hcs, hir⟩ := HF.out _ HX1.out k hf1
      try dsimp only at hfa
      subst hfa
      have HIR := Lib.hid hir
      have HCS := Lib.hid (fun W (hW : Ext w1 W) => (hcs.ext hW).c5)
      have hlc := HLC.out k hf1
      have HGD := Lib.hid (show p.fs.getD k ⟨[], 0, 0, 0, false, []⟩ = p.fs[k] from by simp [List.getD, hf1])
      have hb0 := cell_lt2 hcs.c0
      dsimp only at hb0
      clear hir hcs
      obtain ⟨g, hg⟩ : ∃ g, p.fs[k] = g := ⟨_, rfl⟩
      rw [hg] at HIR HCS hlc HGD
      clear hg HLC
      have c5 := HCS.out w1 (Below.refl _ _)
      go_wp2_with fail
      refine Calls.mono (between_any _ _ _ _) ?_
      rintro _ w5 ⟨rfl, hw5⟩
      rw [hw5]
      clear hw5 w5
      obtain ⟨r1, hr1⟩ : ∃ r, inB pc 0 ((g.code.length : Int) - 1) = r := ⟨_, rfl⟩
      rw [hr1]
      by_cases hp1 : 0 ≤ pc ∧ pc < g.code.length
      case neg =>
        have HN := Lib.hid (show L = [] from by rw [← HL.out]; unfold rnP; rw [if_neg]; rintro ⟨_, _, _, h1, h2⟩; rw [Int.toNat_natCast, HGD.out] at h2; exact hp1 ⟨h1, h2⟩)
        obtain rfl : r1 = false := by rw [← hr1]; simp only [inB, decide_eq_false_iff_not]; omega
        clear hr1
        go_wp2
        go_ret
        exact ⟨_, _, by rw [HN.out]; rfl, by rw [HN.out]; exact IntsAt.nil, HX1.out⟩
      case pos =>
        obtain rfl : r1 = true := by rw [← hr1]; simp only [inB, decide_eq_true_eq]; omega
        clear hr1
        obtain ⟨hp0, hp1⟩ := hp1
        obtain ⟨j, rfl⟩ := Int.eq_ofNat_of_zero_le hp0
        have hp1 : j < g.code.length := by omega
        obtain ⟨b3, o3, aa, ac, ha3, hc3, hi3, hl3⟩ := HIR.out j hp1
        subst ha3
        have HLX := Lib.hid (show L = rnI g.code.length g.code[j] (j : Int) from by
          rw [← HL.out]; unfold rnP
          rw [if_pos ⟨HCK.out, hf0, by omega, hp0, by rw [Int.toNat_natCast, HGD.out]; omega⟩, Int.toNat_natCast, Int.toNat_natCast, HGD.out, insAt_eq hp1])
        have hd3 := cell_lt2 hc3.c0
        dsimp only at hd3
        obtain ⟨v0, v1, v2, v3, v4⟩ := hc3
        clear hi3 hl3 HGD
        generalize g.code[j] = y at *
        obtain ⟨op, xa, xb, xc, xl⟩ := y
        dsimp only at v0 v1 v2 v3 v4
        obtain ⟨m, hm⟩ : ∃ m, g.code.length = m := ⟨_, rfl⟩
        rw [hm] at HCS HLX hlc hp1 c5
        rw [hm]
        clear hm HIR HL
        have hsz1 : w.heap.size + 2 ≤ w1.heap.size := by have h1 := (World.ownsRow.lt HR1.out (w.heap.size + 1) rfl).2; omega
        have HXA := Lib.hid (show Ext w1 (w1.alloc (.cells #[.int .i64 op, .int .i64 xa, .int .i64 xb, .int .i64 xc, .slice aa xl.length ac] 50)) from ext_alloc (Below.refl _ _) _)
        have HYA := Lib.hid (alloc_here w1 (.cells #[.int .i64 op, .int .i64 xa, .int .i64 xb, .int .i64 xc, .slice aa xl.length ac] 50))
        have HSI := Lib.hid (show w1.heap.size < (w1.alloc (.cells #[.int .i64 op, .int .i64 xa, .int .i64 xb, .int .i64 xc, .slice aa xl.length ac] 50)).heap.size from by simp)
        go_upto_region 5 with fail
        generalize (w1.alloc (.cells #[.int .i64 op, .int .i64 xa, .int .i64 xb, .int .i64 xc, .slice aa xl.length ac] 50)) = wi at *
        have y0 := cell_of HYA.out (i := 0) rfl
        have y1 := cell_of HYA.out (i := 1) rfl
        have y2 := cell_of HYA.out (i := 2) rfl
        have y3 := cell_of HYA.out (i := 3) rfl
        have HRA := Lib.hid (HR1.out.ext HXA.out)
        have hbz : w.heap.size ≤ wi.heap.size := Nat.le_trans (by omega) HXA.out.size
        have HOB := Lib.hid (show (Value.slice (some ⟨w.heap.size + 1, 0, none⟩) 0 0).ownBlock ≠ some w1.heap.size from by simp [Value.ownBlock]; omega)
        have HPO := Lib.hid (show (j : Int) + 1 < (m : Int) → rnO m (j : Int) = [(j : Int) + 1] from fun hp => by unfold rnO; rw [if_pos hp])
        have HPN := Lib.hid (show ¬ (j : Int) + 1 < (m : Int) → rnO m (j : Int) = [] from fun hp => by unfold rnO; rw [if_neg hp])
        have HEX := Lib.hid (Ext.trans HX1.out HXA.out)
        clear v0 v1 v2 v3 v4 c5 d0_0 d0_1 d0_2
        have c5 := HCS.out wi HXA.out
        obtain ⟨d0_0, d0_1, d0_2⟩ := BX.out wi (Ext.trans HE1.out HXA.out)
        by_cases h16 : op = 16
        case pos =>
          subst h16
          have q16 : (16 == 16) = true := beq_iff_eq.2 (by omega)
          have HN := Lib.hid (show L = [] from by rw [HLX.out]; rfl)
          clear HLX
          go_wp2
          go_ret
          exact ⟨_, _, by rw [HN.out]; rfl, by rw [HN.out]; exact IntsAt.nil, HEX.out⟩
        case neg =>
          by_cases h21 : op = 21
          case pos =>
            subst h21
            have q16 : (21 == 16) = false := beq_eq_false_iff_ne.2 (by omega)
            have q21 : (21 == 21) = true := beq_iff_eq.2 (by omega)
            have HN := Lib.hid (show L = [] from by rw [HLX.out]; rfl)
            clear HLX
            go_wp2
            go_ret
            exact ⟨_, _, by rw [HN.out]; rfl, by rw [HN.out]; exact IntsAt.nil, HEX.out⟩
          case neg =>
            by_cases h13 : op = 13
            case pos =>
              subst h13
              have q16 : (13 == 16) = false := beq_eq_false_iff_ne.2 (by omega)
              have q21 : (13 == 21) = false := beq_eq_false_iff_ne.2 (by omega)
              have q13 : (13 == 13) = true := beq_iff_eq.2 (by omega)
              have HN := Lib.hid (show L = [xa] from by rw [HLX.out]; rfl)
              clear HLX
              have HRW := Lib.hid (rowI_lit' wi [xa])
              have HXB := Lib.hid (show Ext w1 (wi.alloc (.cells #[.int .i64 xa] 3)) from ext_alloc HXA.out _)
              go_wp2
              go_ret
              exact ⟨_, _, by rw [HN.out]; rfl, by rw [HN.out]; simpa using HRW.out, Ext.trans HX1.out HXB.out⟩
            case neg =>
              have q16 : (op == 16) = false := beq_eq_false_iff_ne.2 (by omega)
              have q21 : (op == 21) = false := beq_eq_false_iff_ne.2 (by omega)
              have q13 : (op == 13) = false := beq_eq_false_iff_ne.2 (by omega)
              by_cases h14 : op = 14
              case pos =>
                subst h14
                have q14 : (14 == 14) = true := beq_iff_eq.2 (by omega)
                have q35 : (14 == 35) = false := by decide
                by_cases hp : (j : Int) + 1 < (m : Int)
                case pos =>
                  have HN := Lib.hid (show L = insR [(j : Int) + 1] xb from by rw [HLX.out]; show insR (rnO m (j : Int)) xb = _; rw [HPO.out hp])
                  clear HLX
                  go_wp2_with (at_builtin; go_loud (refine wp_appJ rfl _ _ (by rfl) w.heap.size _ _ (by rfl) _ HRA.out ((j : Int) + 1) (by rfl) (by simp) hbz ?_); intro v' wN hR3 hB3 hK3; have HR3 := Lib.hid hR3; have HEN := Lib.hid (Below.trans HEX.out hB3); have HYB := Lib.hid ((hK3 w1.heap.size HSI.out HOB.out).trans HYA.out); have z0 := cell_of HYB.out (i := 0) rfl; have z2 := cell_of HYB.out (i := 2) rfl; have z3 := cell_of HYB.out (i := 3) rfl; clear hR3 hB3 hK3)
                  obtain ⟨a3, c3, rfl, hI, _, _⟩ := HR3.out.ints
                  have KI := Lib.hid (insert_any [(j : Int) + 1] xb a3 c3 wN (by simp) hI)
                  clear hI z0 z2 z3 y0 y1 y2 y3
                  refine KI.out.mono ?_
                  rintro _ w5 ⟨a5, c5', rfl, hI, hE⟩
                  have HI := Lib.hid hI
                  have HEF := Lib.hid (Ext.trans HEN.out hE)
                  have z0 := cell_of ((hE.below.block _ (lt_of_block HYB.out)).trans HYB.out) (i := 0) rfl
                  clear hI hE
                  go_wp2
                  go_ret
                  exact ⟨_, _, by rw [HN.out]; rfl, by rw [HN.out]; exact HI.out, HEF.out⟩
                case neg =>
                  have HN := Lib.hid (show L = insR [] xb from by rw [HLX.out]; show insR (rnO m (j : Int)) xb = _; rw [HPN.out hp])
                  clear HLX
                  go_wp2_with fail
                  have KI := Lib.hid (insert_any [] xb (some ⟨w.heap.size + 1, 0, none⟩) 0 wi (by simp) IntsAt.nil)
                  have HEN := HEX
                  have HYB := HYA
                  refine KI.out.mono ?_
                  rintro _ w5 ⟨a5, c5', rfl, hI, hE⟩
                  have HI := Lib.hid hI
                  have HEF := Lib.hid (Ext.trans HEN.out hE)
                  have z0 := cell_of ((hE.below.block _ (lt_of_block HYB.out)).trans HYB.out) (i := 0) rfl
                  clear hI hE
                  go_wp2
                  go_ret
                  exact ⟨_, _, by rw [HN.out]; rfl, by rw [HN.out]; exact HI.out, HEF.out⟩
              case neg =>
                by_cases h35 : op = 35
                case pos =>
                  subst h35
                  have q14 : (35 == 14) = false := beq_eq_false_iff_ne.2 (by omega)
                  have q35 : (35 == 35) = true := beq_iff_eq.2 (by omega)
                  by_cases hp : (j : Int) + 1 < (m : Int)
                  case pos =>
                    have HN := Lib.hid (show L = insR [(j : Int) + 1] xc from by rw [HLX.out]; show insR (rnO m (j : Int)) xc = _; rw [HPO.out hp])
                    clear HLX
                    go_wp2_with (at_builtin; go_loud (refine wp_appJ rfl _ _ (by rfl) w.heap.size _ _ (by rfl) _ HRA.out ((j : Int) + 1) (by rfl) (by simp) hbz ?_); intro v' wN hR3 hB3 hK3; have HR3 := Lib.hid hR3; have HEN := Lib.hid (Below.trans HEX.out hB3); have HYB := Lib.hid ((hK3 w1.heap.size HSI.out HOB.out).trans HYA.out); have z0 := cell_of HYB.out (i := 0) rfl; have z2 := cell_of HYB.out (i := 2) rfl; have z3 := cell_of HYB.out (i := 3) rfl; clear hR3 hB3 hK3)
                    obtain ⟨a3, c3, rfl, hI, _, _⟩ := HR3.out.ints
                    have KI := Lib.hid (insert_any [(j : Int) + 1] xc a3 c3 wN (by simp) hI)
                    clear hI z0 z2 z3 y0 y1 y2 y3
                    refine KI.out.mono ?_
                    rintro _ w5 ⟨a5, c5', rfl, hI, hE⟩
                    have HI := Lib.hid hI
                    have HEF := Lib.hid (Ext.trans HEN.out hE)
                    have z0 := cell_of ((hE.below.block _ (lt_of_block HYB.out)).trans HYB.out) (i := 0) rfl
                    clear hI hE
                    go_wp2
                    go_ret
                    exact ⟨_, _, by rw [HN.out]; rfl, by rw [HN.out]; exact HI.out, HEF.out⟩
                  case neg =>
                    have HN := Lib.hid (show L = insR [] xc from by rw [HLX.out]; show insR (rnO m (j : Int)) xc = _; rw [HPN.out hp])
                    clear HLX
                    go_wp2_with fail
                    have KI := Lib.hid (insert_any [] xc (some ⟨w.heap.size + 1, 0, none⟩) 0 wi (by simp) IntsAt.nil)
                    have HEN := HEX
                    have HYB := HYA
                    refine KI.out.mono ?_
                    rintro _ w5 ⟨a5, c5', rfl, hI, hE⟩
                    have HI := Lib.hid hI
                    have HEF := Lib.hid (Ext.trans HEN.out hE)
                    have z0 := cell_of ((hE.below.block _ (lt_of_block HYB.out)).trans HYB.out) (i := 0) rfl
                    clear hI hE
                    go_wp2
                    go_ret
                    exact ⟨_, _, by rw [HN.out]; rfl, by rw [HN.out]; exact HI.out, HEF.out⟩
                case neg =>
                  have q14 : (op == 14) = false := beq_eq_false_iff_ne.2 (by omega)
                  have q35 : (op == 35) = false := beq_eq_false_iff_ne.2 (by omega)
                  by_cases hp : (j : Int) + 1 < (m : Int)
                  case pos =>
                    have HN := Lib.hid (show L = [(j : Int) + 1] from by rw [HLX.out]; unfold rnI; dsimp only; rw [if_neg (by omega), if_neg h13, if_neg h14, if_neg h35]; rw [HPO.out hp])
                    clear HLX
                    go_wp2_with (at_builtin; go_loud (refine wp_appJ rfl _ _ (by rfl) w.heap.size _ _ (by rfl) _ HRA.out ((j : Int) + 1) (by rfl) (by simp) hbz ?_); intro v' wN hR3 hB3 hK3; have HR3 := Lib.hid hR3; have HEN := Lib.hid (Below.trans HEX.out hB3); have HYB := Lib.hid ((hK3 w1.heap.size HSI.out HOB.out).trans HYA.out); have z0 := cell_of HYB.out (i := 0) rfl; have z2 := cell_of HYB.out (i := 2) rfl; have z3 := cell_of HYB.out (i := 3) rfl; clear hR3 hB3 hK3)
                    obtain ⟨a3, c3, rfl, hI, _, _⟩ := HR3.out.ints
                    have HI := Lib.hid hI
                    clear hI
                    go_ret
                    exact ⟨a3, c3, by rw [HN.out]; rfl, by rw [HN.out]; exact HI.out, HEN.out⟩
                  case neg =>
                    have HN := Lib.hid (show L = [] from by rw [HLX.out]; unfold rnI; dsimp only; rw [if_neg (by omega), if_neg h13, if_neg h14, if_neg h35]; rw [HPN.out hp])
                    clear HLX
                    go_wp2
                    go_ret
                    exact ⟨_, _, by rw [HN.out]; rfl, by rw [HN.out]; exact IntsAt.nil, HEX.out⟩

end Go.Proofs.YtfkjokbhnblndaaGreatDoor

namespace Go.Proofs.YtfkjokbhnblndaaGreatDoor
open Go.RowKit
set_option linter.unusedVariables false
set_option linter.unusedSimpArgs false

theorem sort1 (a : Int) : ([a].mergeSort fun x y => decide (x ≤ y)) = [a] := List.mergeSort_singleton ..
theorem sort2 (a b : Int) : ([a, b].mergeSort fun x y => decide (x ≤ y)) = if a ≤ b then [a, b] else [b, a] := by
  unfold List.mergeSort
  simp [List.MergeSort.Internal.splitInTwo, List.merge]
theorem cmp1 (a : Int) : Lib.compact [a] = [a] := by
  simp [Lib.compact, Lib.compactUpTo, Lib.keeps, List.range_succ]
theorem cmp2 (a b : Int) : Lib.compact [a, b] = if a = b then [a] else [a, b] := by
  by_cases e : a = b
  · subst e; simp [Lib.compact, Lib.compactUpTo, Lib.keeps, List.range_succ]
  · rw [if_neg e]
    simp [Lib.compact, Lib.compactUpTo, Lib.keeps, List.range_succ, e, Ne.symm e]
theorem asc0 : asc [] = [] := by simp [asc, delI, Lib.compact, Lib.compactUpTo]
theorem asc1 {a : Int} (h : 0 ≤ a) : asc [a] = [a] := by
  have h1 : (a == -1) = false := beq_eq_false_iff_ne.2 (by omega)
  simp [asc, delI, h1, sort1, cmp1]
theorem asc2 {a b : Int} (h : 0 ≤ a) (h2 : 0 ≤ b) : asc [a, b] = if a < b then [a, b] else if a = b then [a] else [b, a] := by
  have h1 : (a == -1) = false := beq_eq_false_iff_ne.2 (by omega)
  have h3 : (b == -1) = false := beq_eq_false_iff_ne.2 (by omega)
  simp only [asc, delI, h1, h3, List.filter_cons, List.filter_nil, Bool.not_false, if_true, sort2]
  by_cases e : a = b
  · subst e; simp [cmp2]
  · by_cases e2 : a < b
    · rw [if_pos (by omega), if_pos e2]; simp [cmp2, e]
    · rw [if_neg (by omega), if_neg e2, if_neg e]; simp [cmp2, Ne.symm e]
theorem insR_0 {b : Int} (h : 0 ≤ b) : insR [] b = [b] := by
  have h3 : (b == -1) = false := beq_eq_false_iff_ne.2 (by omega)
  simp [insR, sI, h3]
theorem insR_1 {a b : Int} (h : 0 ≤ b) : insR [a] b = if a < b then [a, b] else if a = b then [a] else [b, a] := by
  have h3 : (b == -1) = false := beq_eq_false_iff_ne.2 (by omega)
  by_cases e : a = b
  · subst e; simp [insR]
  · have h4 : [a].contains b = false := by simp [Ne.symm e]
    unfold insR
    rw [if_neg (by simp [Ne.symm e])]
    by_cases e2 : a < b
    · have h5 : ¬ b < a := by omega
      simp [sI, stepI, h3, h5, e2]
    · have h5 : b < a := by omega
      simp [sI, stepI, h3, h5, e2, e]
theorem tgt {p : Pg} {f : Fn} {o : Opd} {n : Int} (h : ckOpd p f o n = 0) (ho : o.what = 6 ∨ o.what = 7) : 0 ≤ n ∧ n < f.code.length := by
  have key : inB n 0 (f.code.length - 1) = true := by
    cases hi : inB n 0 ((f.code.length : Int) - 1) with
    | true => rfl
    | false =>
      unfold ckOpd at h
      rcases ho with e | e <;> simp [e, hi] at h
  have := inB_iff.1 key
  omega
theorem delN_1 {n : Nat} {a : Int} : delI (fun m => decide ((n : Int) ≤ m)) [a] = if a < (n : Int) then [a] else [] := by
  by_cases h : a < (n : Int)
  · have : ¬ (n : Int) ≤ a := by omega
    simp [delI, h, this]
  · have : (n : Int) ≤ a := by omega
    simp [delI, h, this]
theorem delN_2 {n : Nat} {a b : Int} (hb : b < (n : Int)) : delI (fun m => decide ((n : Int) ≤ m)) [a, b] = if a < (n : Int) then [a, b] else [b] := by
  have h2 : ¬ (n : Int) ≤ b := by omega
  by_cases h : a < (n : Int)
  · have : ¬ (n : Int) ≤ a := by omega
    simp [delI, h, this, h2]
  · have : (n : Int) ≤ a := by omega
    simp [delI, h, this, h2]
theorem two_way {n : Nat} {pc b : Int} (hpc : 0 ≤ pc) (hb : 0 ≤ b) (hb2 : b < (n : Int)) : asc (delI (fun m => decide ((n : Int) ≤ m)) [pc + 1, b]) = insR (rnO n pc) b := by
  rw [delN_2 hb2]
  unfold rnO
  by_cases h : pc + 1 < (n : Int)
  · rw [if_pos h, if_pos h, asc2 (by omega) hb, insR_1 hb]
  · rw [if_neg h, if_neg h, asc1 hb, insR_0 hb]
theorem nxI_rnI {p : Pg} {i : Nat} {f : Fn} (h : FnOk p i f) {j : Nat} (hj : j < f.code.length) : nxI f.code.length f.code[j] (j : Int) = rnI f.code.length f.code[j] (j : Int) := by
  obtain ⟨s, ok⟩ := h.ins hj
  generalize f.code[j] = x at *
  unfold nxI nxL rnI
  by_cases h16 : x.op = 16 ∨ x.op = 21
  · rw [if_pos h16, if_pos h16]; exact asc0
  rw [if_neg h16, if_neg h16]
  by_cases h13 : x.op = 13
  · rw [if_pos h13, if_pos h13]
    have h1 := ok.shp
    rw [h13] at h1
    have h2 : s.a.what = 6 := by have h3 := Option.some.inj h1; rw [← h3]
    obtain ⟨h3, h4⟩ := tgt ok.a (.inl h2)
    rw [delN_1, if_pos h4, asc1 h3]
  rw [if_neg h13, if_neg h13]
  by_cases h14 : x.op = 14
  · rw [if_pos h14, if_pos h14]
    have h1 := ok.shp
    rw [h14] at h1
    have h2 : s.b.what = 6 := by have h3 := Option.some.inj h1; rw [← h3]
    obtain ⟨h3, h4⟩ := tgt ok.b (.inl h2)
    exact two_way (by omega) h3 h4
  rw [if_neg h14, if_neg h14]
  by_cases h35 : x.op = 35
  · rw [if_pos h35, if_pos h35]
    have h1 := ok.shp
    rw [h35] at h1
    have h2 : s.c.what = 7 := by have h3 := Option.some.inj h1; rw [← h3]
    obtain ⟨h3, h4⟩ := tgt ok.c (.inr h2)
    exact two_way (by omega) h3 h4
  rw [if_neg h35, if_neg h35, delN_1]
  unfold rnO
  split
  · exact asc1 (by omega)
  · exact asc0
theorem nxP_rnP (p : Pg) (f pc : Int) : nxP p f pc = rnP p f pc := by
  unfold nxP rnP
  by_cases h : ckPg p = 0 ∧ 0 ≤ f ∧ f < p.fs.length ∧ 0 ≤ pc ∧ pc < ((p.fs.getD f.toNat ⟨[], 0, 0, 0, false, []⟩).code).length
  · rw [if_pos h, if_pos h]
    obtain ⟨h1, h2, h3, h4, h5⟩ := h
    have hv := valid_iff.1 h1
    obtain ⟨k, rfl⟩ := Int.eq_ofNat_of_zero_le h2
    obtain ⟨j, rfl⟩ := Int.eq_ofNat_of_zero_le h4
    simp only [Int.toNat_natCast] at h5 ⊢
    have hk : k < p.fs.length := by omega
    have hg : p.fs.getD k ⟨[], 0, 0, 0, false, []⟩ = p.fs[k] := by simp [List.getD, hk]
    rw [hg] at h5 ⊢
    have hj : j < (p.fs[k]).code.length := by omega
    rw [insAt_eq hj]
    exact nxI_rnI (hv.fn hk) hj
  · rw [if_neg h, if_neg h]
theorem nxP_len (p : Pg) (f pc : Int) : (nxP p f pc).length ≤ 2 := by
  unfold nxP
  split
  · unfold nxI
    refine Nat.le_trans (asc_len _) (Nat.le_trans (delI_len _ _) ?_)
    unfold nxL
    repeat' split
    all_goals simp
  · simp
end Go.Proofs.YtfkjokbhnblndaaGreatDoor

namespace Go.Proofs.YtfkjokbhnblndaaGreatDoor
open Go.RowKit Go.Shelf
set_option linter.unusedVariables false
set_option linter.unusedSimpArgs false

theorem wanted_of {l : List Oper} {a' : Act} {o : Oper} {j : Nat} {g v : Bool} (hg : o.guard = some (j, g)) (hv : sv l a' j = .bool v) : Region.wanted o (yielded l.toArray a'.tmps) = (v == g) := by
  unfold sv at hv
  have hy : yielded l.toArray a'.tmps j = some v := by
    unfold yielded
    cases hd : (l[j]?).bind (·.dst) with
    | none => rw [hd] at hv; cases hv
    | some d =>
      rw [hd] at hv
      dsimp only at hv
      have h1 : a'.tmps[d]? = some (.bool v) := by
        cases ht : a'.tmps[d]? with
        | none => simp [Array.getD_eq_getD_getElem?, ht] at hv; cases hv
        | some x => simp [Array.getD_eq_getD_getElem?, ht] at hv; rw [hv]
      have h2 : (l.toArray[j]?).bind (·.dst) = some d := by simpa using hd
      rw [h2]
      simp [h1]
  simp [Region.wanted, hg, hy]
theorem GoesG.valueW {P : Program} {l : List Oper} {R : World → World → Prop} {Φ : Nat → (Nat → Value) → World → Prop} {i : Nat} {o : Oper} {a' : Act} {W W' : World} {Q : Exit → Act → World → Prop} (v : Value) (j : Nat) (g b : Bool) (hg : o.guard = some (j, g)) (hv : sv l a' j = .bool b) (hbg : (b == g) = true) (hrun : (execOp a'.eval o).run P W = .ok (.value v) W') (hR : R W W')
    (hΦ : ∀ s : Nat → Value, (o.dst.isSome = true → s i = v) → (∀ k, k ≠ i → ancB l l.length i k = true → s k = sv l a' k) → Φ i s W') : GoesG P l R Φ i o a' W Q := by
  unfold GoesG
  rw [if_pos (by rw [wanted_of hg hv, hbg])]
  unfold Oper.wp
  rw [hrun]
  exact ⟨v, rfl, hR, hΦ⟩
theorem GoesG.skipW {P : Program} {l : List Oper} {R : World → World → Prop} {Φ : Nat → (Nat → Value) → World → Prop} {i : Nat} {o : Oper} {a' : Act} {W : World} {Q : Exit → Act → World → Prop} (j : Nat) (g b : Bool) (hg : o.guard = some (j, g)) (hv : sv l a' j = .bool b) (hbg : (b == g) = false) (hR : R W W)
    (hΦ : ∀ s : Nat → Value, Φ i s W) : GoesG P l R Φ i o a' W Q := by
  unfold GoesG
  rw [if_neg (by rw [wanted_of hg hv, hbg]; simp)]
  exact ⟨hR, fun s _ _ => hΦ s⟩


theorem GoesG.callW {P : Program} {l : List Oper} {R : World → World → Prop} {Φ : Nat → (Nat → Value) → World → Prop} {i : Nat} {o : Oper} {a' : Act} {W : World} {Q : Exit → Act → World → Prop} (f : FuncId) (args : Array Value) (j : Nat) (g b : Bool) (hg : o.guard = some (j, g)) (hv : sv l a' j = .bool b) (hbg : (b == g) = true) (hrun : (execOp a'.eval o).run P W = .ok (.enter f args) W)
    (hc : Calls P f args W fun e W' => ∃ v, e = .returned v ∧ R W W' ∧ ∀ s : Nat → Value, (o.dst.isSome = true → s i = v) → (∀ k, k ≠ i → ancB l l.length i k = true → s k = sv l a' k) → Φ i s W') : GoesG P l R Φ i o a' W Q := by
  unfold GoesG
  rw [if_pos (by rw [wanted_of hg hv, hbg])]
  unfold Oper.wp
  rw [hrun]
  exact hc.mono fun e W' ⟨v, he, hR, hΦ⟩ => by subst he; exact ⟨v, rfl, hR, hΦ⟩



theorem GoesG.skipV {P : Program} {l : List Oper} {R : World → World → Prop} {Φ : Nat → (Nat → Value) → World → Prop} {i : Nat} {o : Oper} {a' : Act} {W : World} {Q : Exit → Act → World → Prop} (j : Nat) (g b : Bool) (hg : o.guard = some (j, g)) (hv : sv l a' j = .bool b) (hbg : (b == g) = false) (hR : R W W)
    (hΦ : ∀ s : Nat → Value, (∀ k, k ≠ i → ancB l l.length i k = true → s k = sv l a' k) → Φ i s W) : GoesG P l R Φ i o a' W Q := by
  unfold GoesG
  rw [if_neg (by rw [wanted_of hg hv, hbg]; simp)]
  exact ⟨hR, fun s _ h2 => hΦ s h2⟩
theorem tf_ne : ¬ (Value.bool true = Value.bool false) := by simp
/-- slices.Equal of two lists that are one -/
theorem Equal_same (l : List Int) (a b : Option Addr) (c d : Nat) (w : World) (hl : l.length ≤ 1000000000) (ha : IntsAt w a l) (hb : IntsAt w b l) : Gives Tryz.prog 8 #[.slice a l.length c, .slice b l.length d] w (.bool true) := by
  cases l with
  | nil =>
    refine (Tryz.slices_Equal_int_empty a b c 0 d w (by omega)).mono ?_
    rintro e w' ⟨rfl, rfl⟩
    exact ⟨rfl, Below.refl _ _⟩
  | cons x l =>
    obtain ⟨b1, o1, rfl, _⟩ := ha 0 (by simp)
    obtain ⟨b2, o2, rfl, _⟩ := hb 0 (by simp)
    refine (Tryz.slices_Equal_int b1 o1 (x :: l).length c b2 o2 (x :: l).length d (x :: l) (x :: l) w (Nat.le_refl _) (Nat.le_refl _) (by omega) (by omega) (fun j hj => ?_) (fun j hj => ?_)).mono ?_
    · obtain ⟨b', off', e, hc⟩ := ha j hj
      injection e with e
      injection e with e1 e2
      subst e1; subst e2
      rw [hc, List.getD_eq_getElem?_getD, List.getElem?_eq_getElem hj]; rfl
    · obtain ⟨b', off', e, hc⟩ := hb j hj
      injection e with e
      injection e with e1 e2
      subst e1; subst e2
      rw [hc, List.getD_eq_getElem?_getD, List.getElem?_eq_getElem hj]; rfl
    · rintro e w' ⟨rfl, q, rfl⟩
      exact ⟨by simp, ⟨rfl, rfl, rfl, Nat.le_refl _, fun _ _ => rfl⟩⟩

set_option maxRecDepth 100000 in
set_option maxHeartbeats 4000000 in
theorem programNext_walk (p : Pg) (A : PA) (f pc : Int) (w : World) (h : PgAt w p A) (hf' : (Lit.int .i64 f).wf = true) (hpc' : (Lit.int .i64 pc).wf = true) (hT : TabW w) : Gives Tryz.prog 3 #[PV p A, .int .i64 f, .int .i64 pc] w (.bool true) := by
  have hf : i64 f := i64_bd hf'
  have hpc : i64 pc := i64_bd hpc'
  clear hf' hpc'
  unfold Gives
  have KG := Lib.hid (fun W (hW : Ext w W) => Great_any p A W (h.ext hW))
  have KN := Lib.hid (fun W (hW : Ext w W) => Next_any p A f pc W (h.ext hW) hf hpc)
  have KM := Lib.hid (fun W (hW : Ext w W) => refNext_any p A f pc W (h.ext hW) hf hpc)
  have KA := Lib.hid (fun W (hW : Ext w W) => awake_any W (hT.below hW))
  rw [← nxP_rnP] at KM
  have HLL := Lib.hid (nxP_len p f pc)
  generalize nxP p f pc = L at *
  clear h hT
  obtain ⟨fa, fc, oa, oc, va, vc⟩ := A
  dsimp only [PV] at KG KN KM ⊢
  obtain ⟨wk, hwk⟩ : ∃ W, W = (w.alloc (.cells #[.slice fa p.fs.length fc, .slice oa p.os.length oc, .slice va p.vs.length vc] 26)) := ⟨_, rfl⟩
  have BX := Lib.hid (show ∀ W, Ext wk W → (W.cell? ⟨w.heap.size, 0, none⟩ = some (.slice fa p.fs.length fc) ∧ W.cell? ⟨w.heap.size, 1, none⟩ = some (.slice oa p.os.length oc) ∧ W.cell? ⟨w.heap.size, 2, none⟩ = some (.slice va p.vs.length vc)) from fun W hW => by
    subst hwk
    have h0 := alloc_here w (.cells #[.slice fa p.fs.length fc, .slice oa p.os.length oc, .slice va p.vs.length vc] 26)
    have k0 := (hW.below.block _ (lt_of_block h0)).trans h0
    exact ⟨cell_of k0 rfl, cell_of k0 rfl, cell_of k0 rfl⟩)
  have HWZ := Lib.hid (show wk.heap.size = w.heap.size + 1 by rw [hwk]; simp)
  have HW := Lib.hid (show Ext w wk by rw [hwk]; exact (ext_alloc (Below.refl _ _) _))
  have HE0 := Lib.hid (show Ext wk wk from Below.refl _ _)
  go_enter Tryz.func3, Tryz.ntmps3
  go_wp2_with fail
  rw [← hwk]
  clear hwk
  refine wp_region_tail (l1 := [_, _, _, _, _, _, _, _, _, _, _, _, _, _, _, _]) (l2 := [_]) (by kernel_rfl) Ext (fun W => Below.refl _ W) (fun W => show Below W.heap.size W { W with drawn := W.drawn + 1 } from ⟨rfl, rfl, rfl, Nat.le_refl _, fun _ _ => rfl⟩) Ext.trans
    (fun i s W => match i with
      | 0 => s 0 = .agg #[.slice fa p.fs.length fc, .slice oa p.os.length oc, .slice va p.vs.length vc]
      | 1 => ∃ b : Bool, s 1 = .bool b
      | 2 => ∃ b : Bool, s 2 = .bool b
      | 3 => s 2 = .bool false → s 3 = .agg #[.slice fa p.fs.length fc, .slice oa p.os.length oc, .slice va p.vs.length vc]
      | 4 => s 2 = .bool false → s 4 = .int .i64 f
      | 5 => s 2 = .bool false → s 5 = .int .i64 pc
      | 6 => s 2 = .bool false → ∃ a c, s 6 = .slice a L.length c ∧ IntsAt W a L
      | 7 => s 2 = .bool false → s 7 = .agg #[.slice fa p.fs.length fc, .slice oa p.os.length oc, .slice va p.vs.length vc]
      | 8 => s 2 = .bool false → s 8 = .int .i64 f
      | 9 => s 2 = .bool false → s 9 = .int .i64 pc
      | 10 => s 2 = .bool false → ∃ a c, s 10 = .slice a L.length c ∧ IntsAt W a L
      | 11 => s 2 = .bool false → s 11 = .bool true
      | 12 => s 12 = .bool true
      | 13 => s 13 = .bool true
      | 14 => s 14 = .bool true
      | 15 => s 15 = .bool true
      | _ => True)
    (fun i => if 3 ≤ i ∧ i ≤ 11 then [2, i] else [i])
    (by
      intro i s s' W W' h hs hE
      match i, h, hs with
      | 0, h, hs => exact (hs 0 (by simp)).trans h
      | 1, ⟨b, h⟩, hs => exact ⟨b, (hs 1 (by simp)).trans h⟩
      | 2, ⟨b, h⟩, hs => exact ⟨b, (hs 2 (by simp)).trans h⟩
      | 3, h, hs => exact fun e => (hs 3 (by simp)).trans (h ((hs 2 (by simp)).symm.trans e))
      | 4, h, hs => exact fun e => (hs 4 (by simp)).trans (h ((hs 2 (by simp)).symm.trans e))
      | 5, h, hs => exact fun e => (hs 5 (by simp)).trans (h ((hs 2 (by simp)).symm.trans e))
      | 6, h, hs => exact fun e => let ⟨a, c, h1, h2⟩ := h ((hs 2 (by simp)).symm.trans e); ⟨a, c, (hs 6 (by simp)).trans h1, h2.below hE⟩
      | 7, h, hs => exact fun e => (hs 7 (by simp)).trans (h ((hs 2 (by simp)).symm.trans e))
      | 8, h, hs => exact fun e => (hs 8 (by simp)).trans (h ((hs 2 (by simp)).symm.trans e))
      | 9, h, hs => exact fun e => (hs 9 (by simp)).trans (h ((hs 2 (by simp)).symm.trans e))
      | 10, h, hs => exact fun e => let ⟨a, c, h1, h2⟩ := h ((hs 2 (by simp)).symm.trans e); ⟨a, c, (hs 10 (by simp)).trans h1, h2.below hE⟩
      | 11, h, hs => exact fun e => (hs 11 (by simp)).trans (h ((hs 2 (by simp)).symm.trans e))
      | 12, h, hs => exact (hs 12 (by simp)).trans h
      | 13, h, hs => exact (hs 13 (by simp)).trans h
      | 14, h, hs => exact (hs 14 (by simp)).trans h
      | 15, h, hs => exact (hs 15 (by simp)).trans h
      | i + 16, h, hs => exact trivial)
    (by kernel_rfl) (by kernel_rfl) (by kernel_rfl) 23 rfl (by kernel_rfl) (by kernel_rfl) ?_ ?_
  · intro i op ho a' W hA
    obtain ⟨d0_0, d0_1, d0_2⟩ := BX.out W hA.rel
    match i, ho with
    | 0, ho =>
      obtain rfl := Option.some.inj ho
      have e1 : a'.eval (.tmp 3) = .pointer (some ⟨w.heap.size, 0, none⟩) := hA.keep 3 (by kernel_rfl)
      refine GoesG.value (.agg #[.slice fa p.fs.length fc, .slice oa p.os.length oc, .slice va p.vs.length vc]) rfl ?_ (Below.refl _ _) (fun s h1 h2 => h1 rfl)
      simp only [execOp, e1]
      simp [go_sem, d0_0, d0_1, d0_2]
    | 1, ho =>
      obtain rfl := Option.some.inj ho
      have e1 : a'.eval (.tmp 7) = .agg #[.slice fa p.fs.length fc, .slice oa p.os.length oc, .slice va p.vs.length vc] := (sv_dst (l := _) rfl).symm.trans (hA.new 0 (by decide) (by kernel_rfl))
      refine GoesG.call 7 #[.agg #[.slice fa p.fs.length fc, .slice oa p.os.length oc, .slice va p.vs.length vc]] rfl ?_ ?_
      · simp [execOp, resolve, invoke, Deferred.ofValue, e1]
        rfl
      · refine Calls.mono (KG.out W (Ext.trans HW.out hA.rel)) ?_
        rintro _ W1 ⟨b, rfl, hE⟩
        exact ⟨_, rfl, hE, fun s h1 h2 => ⟨b, h1 rfl⟩⟩
    | 2, ho =>
      obtain rfl := Option.some.inj ho
      exact GoesG.move (.tmp 8) rfl rfl (Below.refl _ _) (fun s h1 h2 => by
        obtain ⟨b, hb⟩ := hA.new 1 (by decide) (by kernel_rfl)
        exact ⟨b, (h1 rfl).trans ((sv_dst (l := _) rfl).symm.trans hb)⟩)
    | 3, ho =>
      obtain rfl := Option.some.inj ho
      obtain ⟨b, hb⟩ := hA.new 2 (by decide) (by kernel_rfl)
      cases b with
      | true => exact GoesG.skipV 2 false true rfl hb rfl (Below.refl _ _) (fun s h2 e => absurd ((((h2 2 (by decide) (by kernel_rfl)).trans hb).symm).trans e) tf_ne)
      | false =>
        have e1 : a'.eval (.tmp 3) = .pointer (some ⟨w.heap.size, 0, none⟩) := hA.keep 3 (by kernel_rfl)
        refine GoesG.valueW (.agg #[.slice fa p.fs.length fc, .slice oa p.os.length oc, .slice va p.vs.length vc]) 2 false false rfl hb rfl ?_ (Below.refl _ _) (fun s h1 h2 e => h1 rfl)
        simp only [execOp, e1]
        simp [go_sem, d0_0, d0_1, d0_2]
    | 4, ho =>
      obtain rfl := Option.some.inj ho
      obtain ⟨b, hb⟩ := hA.new 2 (by decide) (by kernel_rfl)
      cases b with
      | true => exact GoesG.skipV 2 false true rfl hb rfl (Below.refl _ _) (fun s h2 e => absurd ((((h2 2 (by decide) (by kernel_rfl)).trans hb).symm).trans e) tf_ne)
      | false =>
        have e1 : a'.eval (.tmp 1) = .int .i64 f := hA.keep 1 (by kernel_rfl)
        refine GoesG.valueW (.int .i64 f) 2 false false rfl hb rfl ?_ (Below.refl _ _) (fun s h1 h2 e => h1 rfl)
        simp only [execOp, e1]
        simp [go_sem]
    | 5, ho =>
      obtain rfl := Option.some.inj ho
      obtain ⟨b, hb⟩ := hA.new 2 (by decide) (by kernel_rfl)
      cases b with
      | true => exact GoesG.skipV 2 false true rfl hb rfl (Below.refl _ _) (fun s h2 e => absurd ((((h2 2 (by decide) (by kernel_rfl)).trans hb).symm).trans e) tf_ne)
      | false =>
        have e1 : a'.eval (.tmp 2) = .int .i64 pc := hA.keep 2 (by kernel_rfl)
        refine GoesG.valueW (.int .i64 pc) 2 false false rfl hb rfl ?_ (Below.refl _ _) (fun s h1 h2 e => h1 rfl)
        simp only [execOp, e1]
        simp [go_sem]
    | 6, ho =>
      obtain rfl := Option.some.inj ho
      obtain ⟨b, hb⟩ := hA.new 2 (by decide) (by kernel_rfl)
      cases b with
      | true => exact GoesG.skipV 2 false true rfl hb rfl (Below.refl _ _) (fun s h2 e => absurd ((((h2 2 (by decide) (by kernel_rfl)).trans hb).symm).trans e) tf_ne)
      | false =>
        have e1 : a'.eval (.tmp 10) = .agg #[.slice fa p.fs.length fc, .slice oa p.os.length oc, .slice va p.vs.length vc] := (sv_dst (l := _) rfl).symm.trans (hA.new 3 (by decide) (by kernel_rfl) hb)
        have e2 : a'.eval (.tmp 11) = .int .i64 f := (sv_dst (l := _) rfl).symm.trans (hA.new 4 (by decide) (by kernel_rfl) hb)
        have e3 : a'.eval (.tmp 12) = .int .i64 pc := (sv_dst (l := _) rfl).symm.trans (hA.new 5 (by decide) (by kernel_rfl) hb)
        refine GoesG.callW 9 #[.agg #[.slice fa p.fs.length fc, .slice oa p.os.length oc, .slice va p.vs.length vc], .int .i64 f, .int .i64 pc] 2 false false rfl hb rfl ?_ ?_
        · simp [execOp, resolve, invoke, Deferred.ofValue, e1, e2, e3]
          rfl
        · refine (KN.out W (Ext.trans HW.out hA.rel)).mono ?_
          rintro _ W1 ⟨v, rfl, hR, hE1⟩
          obtain ⟨a2, c2, rfl, hI, _, _⟩ := hR.ints
          exact ⟨_, rfl, hE1, fun s h1 h2 e => ⟨_, _, h1 rfl, hI⟩⟩
    | 7, ho =>
      obtain rfl := Option.some.inj ho
      obtain ⟨b, hb⟩ := hA.new 2 (by decide) (by kernel_rfl)
      cases b with
      | true => exact GoesG.skipV 2 false true rfl hb rfl (Below.refl _ _) (fun s h2 e => absurd ((((h2 2 (by decide) (by kernel_rfl)).trans hb).symm).trans e) tf_ne)
      | false =>
        have e1 : a'.eval (.tmp 3) = .pointer (some ⟨w.heap.size, 0, none⟩) := hA.keep 3 (by kernel_rfl)
        refine GoesG.valueW (.agg #[.slice fa p.fs.length fc, .slice oa p.os.length oc, .slice va p.vs.length vc]) 2 false false rfl hb rfl ?_ (Below.refl _ _) (fun s h1 h2 e => h1 rfl)
        simp only [execOp, e1]
        simp [go_sem, d0_0, d0_1, d0_2]
    | 8, ho =>
      obtain rfl := Option.some.inj ho
      obtain ⟨b, hb⟩ := hA.new 2 (by decide) (by kernel_rfl)
      cases b with
      | true => exact GoesG.skipV 2 false true rfl hb rfl (Below.refl _ _) (fun s h2 e => absurd ((((h2 2 (by decide) (by kernel_rfl)).trans hb).symm).trans e) tf_ne)
      | false =>
        have e1 : a'.eval (.tmp 1) = .int .i64 f := hA.keep 1 (by kernel_rfl)
        refine GoesG.valueW (.int .i64 f) 2 false false rfl hb rfl ?_ (Below.refl _ _) (fun s h1 h2 e => h1 rfl)
        simp only [execOp, e1]
        simp [go_sem]
    | 9, ho =>
      obtain rfl := Option.some.inj ho
      obtain ⟨b, hb⟩ := hA.new 2 (by decide) (by kernel_rfl)
      cases b with
      | true => exact GoesG.skipV 2 false true rfl hb rfl (Below.refl _ _) (fun s h2 e => absurd ((((h2 2 (by decide) (by kernel_rfl)).trans hb).symm).trans e) tf_ne)
      | false =>
        have e1 : a'.eval (.tmp 2) = .int .i64 pc := hA.keep 2 (by kernel_rfl)
        refine GoesG.valueW (.int .i64 pc) 2 false false rfl hb rfl ?_ (Below.refl _ _) (fun s h1 h2 e => h1 rfl)
        simp only [execOp, e1]
        simp [go_sem]
    | 10, ho =>
      obtain rfl := Option.some.inj ho
      obtain ⟨b, hb⟩ := hA.new 2 (by decide) (by kernel_rfl)
      cases b with
      | true => exact GoesG.skipV 2 false true rfl hb rfl (Below.refl _ _) (fun s h2 e => absurd ((((h2 2 (by decide) (by kernel_rfl)).trans hb).symm).trans e) tf_ne)
      | false =>
        have e1 : a'.eval (.tmp 14) = .agg #[.slice fa p.fs.length fc, .slice oa p.os.length oc, .slice va p.vs.length vc] := (sv_dst (l := _) rfl).symm.trans (hA.new 7 (by decide) (by kernel_rfl) hb)
        have e2 : a'.eval (.tmp 15) = .int .i64 f := (sv_dst (l := _) rfl).symm.trans (hA.new 8 (by decide) (by kernel_rfl) hb)
        have e3 : a'.eval (.tmp 16) = .int .i64 pc := (sv_dst (l := _) rfl).symm.trans (hA.new 9 (by decide) (by kernel_rfl) hb)
        refine GoesG.callW 10 #[.agg #[.slice fa p.fs.length fc, .slice oa p.os.length oc, .slice va p.vs.length vc], .int .i64 f, .int .i64 pc] 2 false false rfl hb rfl ?_ ?_
        · simp [execOp, resolve, invoke, Deferred.ofValue, e1, e2, e3]
          rfl
        · refine (KM.out W (Ext.trans HW.out hA.rel)).mono ?_
          rintro _ W1 ⟨a2, c2, rfl, hI, hE1⟩
          exact ⟨_, rfl, hE1, fun s h1 h2 e => ⟨_, _, h1 rfl, hI⟩⟩
    | 11, ho =>
      obtain rfl := Option.some.inj ho
      obtain ⟨b, hb⟩ := hA.new 2 (by decide) (by kernel_rfl)
      cases b with
      | true => exact GoesG.skipV 2 false true rfl hb rfl (Below.refl _ _) (fun s h2 e => absurd ((((h2 2 (by decide) (by kernel_rfl)).trans hb).symm).trans e) tf_ne)
      | false =>
        obtain ⟨a1, c1, e1, hI1⟩ := hA.new 6 (by decide) (by kernel_rfl) hb
        obtain ⟨a2, c2, e2, hI2⟩ := hA.new 10 (by decide) (by kernel_rfl) hb
        replace e1 : a'.eval (.tmp 13) = .slice a1 L.length c1 := (sv_dst (l := _) rfl).symm.trans e1
        replace e2 : a'.eval (.tmp 17) = .slice a2 L.length c2 := (sv_dst (l := _) rfl).symm.trans e2
        refine GoesG.callW 8 #[.slice a1 L.length c1, .slice a2 L.length c2] 2 false false rfl hb rfl ?_ ?_
        · simp [execOp, resolve, invoke, Deferred.ofValue, e1, e2]
          rfl
        · refine (Equal_same L a1 a2 c1 c2 W (Nat.le_trans HLL.out (by decide)) hI1 hI2).mono ?_
          rintro W1 hE1
          exact ⟨_, rfl, hE1, fun s h1 h2 e => h1 rfl⟩
    | 12, ho =>
      obtain rfl := Option.some.inj ho
      obtain ⟨b, hb⟩ := hA.new 2 (by decide) (by kernel_rfl)
      have e1 : a'.eval (.tmp 9) = .bool b := (sv_dst (l := _) rfl).symm.trans hb
      cases b with
      | true =>
        refine GoesG.value (.bool true) rfl ?_ (Below.refl _ _) (fun s h1 h2 => h1 rfl)
        simp only [execOp, e1]
        simp [go_sem]
      | false =>
        have e2 : a'.eval (.tmp 18) = .bool true := (sv_dst (l := _) rfl).symm.trans (hA.new 11 (by decide) (by kernel_rfl) hb)
        refine GoesG.value (.bool true) rfl ?_ (Below.refl _ _) (fun s h1 h2 => h1 rfl)
        simp only [execOp, e1, e2]
        simp [go_sem]
    | 13, ho =>
      obtain rfl := Option.some.inj ho
      exact GoesG.move (.tmp 19) rfl rfl (Below.refl _ _) (fun s h1 h2 => (h1 rfl).trans ((sv_dst (l := _) rfl).symm.trans (hA.new 12 (by decide) (by kernel_rfl))))
    | 14, ho =>
      obtain rfl := Option.some.inj ho
      have hb := hA.new 13 (by decide) (by kernel_rfl)
      refine GoesG.callW 11 #[] 13 true true rfl hb rfl ?_ ?_
      · simp [execOp, resolve, invoke, Deferred.ofValue]
        rfl
      · refine (KA.out W (Ext.trans HW.out hA.rel)).mono ?_
        rintro W1 hE1
        exact ⟨_, rfl, hE1, fun s h1 h2 => h1 rfl⟩
    | 15, ho =>
      obtain rfl := Option.some.inj ho
      have e1 : a'.eval (.tmp 20) = .bool true := (sv_dst (l := _) rfl).symm.trans (hA.new 13 (by decide) (by kernel_rfl))
      have e2 : a'.eval (.tmp 21) = .bool true := (sv_dst (l := _) rfl).symm.trans (hA.new 14 (by decide) (by kernel_rfl))
      refine GoesG.value (.bool true) rfl ?_ (Below.refl _ _) (fun s h1 h2 => h1 rfl)
      simp only [execOp, e1, e2]
      simp [go_sem]
    | i + 16, ho => cases ho
  · intro vs w4 hvs hG hΦ
    obtain ⟨y0, y1, y2, y3, y4, y5, y6, y7, y8, y9, y10, y11, y12, y13, y14, y15, rfl⟩ : ∃ y0 y1 y2 y3 y4 y5 y6 y7 y8 y9 y10 y11 y12 y13 y14 y15, vs = [y0, y1, y2, y3, y4, y5, y6, y7, y8, y9, y10, y11, y12, y13, y14, y15] := by
      match vs, hvs with
      | [y0, y1, y2, y3, y4, y5, y6, y7, y8, y9, y10, y11, y12, y13, y14, y15], _ => exact ⟨_, _, _, _, _, _, _, _, _, _, _, _, _, _, _, _, rfl⟩
    have h15 : y15 = .bool true := hΦ 15 (by decide)
    subst h15
    clear hΦ hvs
    simp only [putAll, Act.put, List.setIfInBounds_toArray, List.set_cons_succ, List.set_cons_zero]
    have HG := Lib.hid hG
    clear hG
    go_wp2
    go_ret
    exact ⟨rfl, Ext.trans HW.out HG.out⟩

end Go.Proofs.YtfkjokbhnblndaaGreatDoor

namespace Go.Proofs.YtfkjokbhnblndaaGreatDoor.programNext
open Go.ChangeShapes Go.WideShapes Go.ChangeAt Go.RowKit
open Go.ChangeMaps (open_string shut_string)
set_option linter.unusedVariables false

theorem own : ownKnob Tryz.prog.godebug = none := by kernel_rfl
theorem laidOut : laidOutB Tryz.prog = true := by kernel_rfl
/-- the cells of a datum of plain values -/
def flat : Nat → DataW Unit → List Value
  | _, .lit l => [l.value]
  | n + 1, .agg ps => ps.flatMap (flat n)
  | _, _ => []
/-- a world for the witness: the settled one, the listed tables holding what the text lays -/
def lay (d : DataW Unit) : Obj → Obj
  | .cells _ t frozen => .cells (flat 4 d).toArray t frozen
  | o => o
noncomputable def laidWorld (os : Os) : World :=
  { World.holding Tryz.prog os ⟨#[], #[], []⟩ with heap := ((((World.holding Tryz.prog os ⟨#[], #[], []⟩).heap.modify 1 (lay Rows.laid_math_bits_deBruijn32tab)).modify 2 (lay Rows.laid_math_bits_deBruijn64tab)).modify 0 (lay Rows.laid_internal_strconv_uint64pow10)) }
theorem laid_met (os : Os) : laidMet Tryz.prog Rows.programNextRow.laid ((laidWorld os).forCall (fun _ _ => 0) ⟨#[], #[.agg #[.slice none 0 0, .slice none 0 0, .slice none 0 0], .int .i64 0, .int .i64 0], []⟩).memory :=
  laidMet_of_run' 8 (by kernel_rfl) (by kernel_rfl)
theorem reads (os : Os) {H : Type} (enc : TypeId × Value → H) : ∃ places, DataW.whole enc Tryz.prog ((laidWorld os).forCall (fun _ _ => 0) ⟨#[], #[.agg #[.slice none 0 0, .slice none 0 0, .slice none 0 0], .int .i64 0, .int .i64 0], []⟩).memory Tryz.f3.params.toList Rows.programNextSpec.vars false (#[.agg #[.slice none 0 0, .slice none 0 0, .slice none 0 0], .int .i64 0, .int .i64 0] : Array Value).toList 8 = some ([.agg [.nil, .nil, .nil], .lit (.int .i64 0), .lit (.int .i64 0)], [], places) :=
  ⟨[], by kernel_rfl⟩
theorem tab (W : World) (h : laidMetH Tryz.prog Rows.programNextRow.laid W) : TabW W := by
  have h1 : laidMet Tryz.prog Rows.programNextRow.laid W := h
  exact Lib.tabIs_of_head (g := 0) (t := 227) (e := 190) (n := 20) (by kernel_rfl) (by kernel_rfl) Tryz.underlying227 Tryz.underlying190 (by kernel_rfl) (by kernel_rfl) h1.tail.tail
set_option maxRecDepth 100000 in
set_option maxHeartbeats 4000000 in
theorem contract (H : Type) (enc : TypeId × Value → H) (W : World) (base : Nat) (args : Array Value) (ds gs : List (DataW H)) (before : List MemPlace)
    (hval0 : ∀ (j : Nat) t v, Tryz.f3.params[j]? = some t → args[j]? = some v → Value.okWide Tryz.prog W .any base t v)
    (hW : DataW.Whole enc Tryz.prog Tryz.f3.params.toList Rows.programNextSpec.vars false W args.toList ds gs before) (hz : (DataW.weightsEach Tryz.prog (Tryz.f3.params.toList ++ (OpenSpec.ofChange Rows.programNextSpec).bare.plain.varTypes Tryz.prog) (ds ++ gs)).all (· ≤ reachBytes) = true) (hL : laidMetH Tryz.prog Rows.programNextRow.laid W) :
    Calls Tryz.prog 3 args W fun e W' => ∃ v, e = .returned v ∧ Rows.programNextSpec.post enc Tryz.prog Tryz.f3 false true false false W args v W' := by
  have hval := hval0
  have hW' := hW
  obtain ⟨p, q, hA0, hV, rfl, hfz, hnd⟩ := hW
  have hA : DataW.TrodAll enc Tryz.prog W 0 (fun _ => true) true Tryz.f3.params.toList args.toList ds p := hA0
  rw [Tryz.params3] at hA hval
  obtain ⟨v0, vs0, d0, ds0, p0, q0, hargs, rfl, rfl, h0, r0⟩ := trodAll_cons hA
  obtain ⟨v1, vs1, d1, ds1, p1, q1, rfl, rfl, rfl, h1, r1⟩ := trodAll_cons r0
  obtain ⟨v2, vs2, d2, ds2, p2, q2, rfl, rfl, rfl, h2, r2⟩ := trodAll_cons r1
  obtain ⟨rfl, rfl, rfl⟩ := trodAll_nil r2
  obtain rfl : args = #[v0, v1, v2] := by cases args; simp_all
  obtain ⟨rfl, rfl⟩ := trodVars_none hV
  have k0 := h0
  have lt0 : ∀ x ∈ p0, x.block < W.heap.size := by obtain ⟨m, hm⟩ := k0; exact DataW.trod_lt m _ _ _ hm
  obtain ⟨e0, ae0, rfl, w0⟩ := open_pg (hval 0 26 v0 rfl rfl) h0 (fun n hn => by have := List.all_eq_true.1 hz n (DataW.weights_mem_each (j := 0) rfl rfl n hn); simpa using this)
  obtain ⟨a1, rfl, rfl, rfl, w1⟩ := open_int Tryz.underlying3 (hval 1 3 v1 rfl rfl) h1
  obtain ⟨a2, rfl, rfl, rfl, w2⟩ := open_int Tryz.underlying3 (hval 2 3 v2 rfl rfl) h2
  clear hA0 hval0 hz
  refine (programNext_walk e0 ae0 a1 a2 W w0 w1 w2 (tab W hL)).mono fun W' bel => ?_
  exact ⟨_, rfl, _, _, _, [], _, [], hW', trodAll_mk1 (shut_bool Tryz.underlying4 _), (trodAll_cons_mk (Below.trod laidOut (by kernel_rfl) (of_decide_eq_true (by kernel_rfl)) k0 bel lt0) (trodAll_cons_mk (shut_int Tryz.underlying3 w1) (trodAll_cons_mk (shut_int Tryz.underlying3 w2) trodAll_mk0))), rfl, bel.frame _, fun h => by cases h⟩

set_option maxRecDepth 100000 in
theorem lifted (os : Os) (started : os.Started) (H : Type) (enc : TypeId × Value → H) (F : Stop.Interp) :
    ReturnsInHanded {} Tryz.checked os 3 .any ((OpenSpec.ofChange Rows.programNextSpec).preRow enc Tryz.prog Tryz.f3 Rows.programNextRow.domain false Rows.programNextRow.laid) (((OpenSpec.ofChange Rows.programNextSpec).at F).post enc Tryz.prog Tryz.f3 false true false false) := by
  obtain ⟨places, hx⟩ := reads os enc
  refine returnsInHanded_of_row (C := Tryz.checked) (s := OpenSpec.ofChange Rows.programNextSpec) own started (by kernel_rfl) Tryz.func3
    (witness_row_at (enc := enc) (C := Tryz.checked) false (laidWorld os) #[.agg #[.slice none 0 0, .slice none 0 0, .slice none 0 0], .int .i64 0, .int .i64 0] rfl (by kernel_rfl) (by kernel_rfl) (by kernel_rfl)
      (OpenSpec.preRow_of_cond 8 hx (by kernel_rfl) (fun k hk => by cases hk) (by kernel_rfl) (laid_met os))) ?_
  intro W base args ds gs before hval hW _ _ hz hL hsh _
  exact contract H enc W base args ds gs before hval hW hz hL

theorem said : Rows.ProgramNextSaid :=
  OpenClaim.holds_of_cond 3 Tryz.f3 rfl rfl rfl rfl rfl rfl rfl ⟨rfl, rfl, rfl, rfl, rfl⟩ rfl rfl rfl rfl rfl (by kernel_rfl) Tryz.func3 (by kernel_rfl)
    (of_decide_eq_true (by kernel_rfl)) (by unfold Func.isWrapper; first | (rw [if_pos (by decide +kernel)]; kernel_rfl) | (rw [if_neg (by decide +kernel)]; exact ⟨rfl, rfl⟩))
    (fun os started H enc _ F => by rw [OpenClaim.pre_eq_preRow]; exact lifted os started H enc F)

theorem plain (f : FuncId) (fn : Func) (hf : Tryz.pinned.checked.prog.funcNamed "nursery/nurserylaw13.ProgramNext" = some f) (hfn : Tryz.pinned.checked.prog.funcs[f]? = some fn) :
    true = Tryz.pinned.checked.prog.looks [] ∧ ∀ (j : Nat) t, fn.params[j]? = some t → Tryz.pinned.checked.prog.wantsStandIn t = false := by
  obtain rfl : f = 3 := Option.some.inj ((show Tryz.prog.funcNamed "nursery/nurserylaw13.ProgramNext" = some 3 by kernel_rfl).symm.trans hf) |>.symm
  obtain rfl : fn = Tryz.f3 := (Option.some.inj (Tryz.func3.symm.trans hfn)).symm
  refine ⟨by kernel_rfl, fun j t ht => ?_⟩
  rw [Tryz.params3] at ht
  rcases j with _ | _ | _ | j
  · obtain rfl : t = 26 := by simpa using ht.symm
    exact (show Tryz.prog.wantsStandIn 26 = false by kernel_rfl)
  · obtain rfl : t = 3 := by simpa using ht.symm
    exact (show Tryz.prog.wantsStandIn 3 = false by kernel_rfl)
  · obtain rfl : t = 3 := by simpa using ht.symm
    exact (show Tryz.prog.wantsStandIn 3 = false by kernel_rfl)
  · simp at ht

/-- the statement -/
theorem proved : Rows.ProgramNextCardSaid :=
  Claim7.holds_tied_plain_at .later [] _ _ _ _ said (fun _ h => by cases h) (by kernel_rfl) (fun _ h => by cases h) programNext_row_tie rfl ⟨rfl, rfl⟩ (by kernel_rfl) rfl plain (by kernel_rfl)
#print axioms proved
end Go.Proofs.YtfkjokbhnblndaaGreatDoor.programNext

