/- Lemmas and walks for the statements of this seat, part 3, merged from smaller texts: Maps with string keys: a store of a new key, and a look-up, at entries that are known.; linearize.newSearcher.; linearize.newSearcher of a history.; DERIVED: THE SHELF's CONTRACTS AT THIS DUMP, IN PLAIN WORDS (tools/lay-plain.mjs out of 'TrydShelf.lean', which tools/lay-shelf.mjs wrote): THE SAME DECLARATIONS UNDER THE SAME NAMES: 'import', 'namespace', 'open', 'def', 'theorem' AND NOTHING ELSE: no command of the shelf's: FOR A HAND-IN. Each laying: the table of numbers ('.._ren') and one theorem, a field a fact of the dump's own or the kernel's comparison; each contract: ONE APPLICATION.; slices.Insert at []int: the library's contracts laid at this dump; a row of the call's own.; slices.Clone, slices.Delete, slices.BinarySearch at []int.; linearize: insert, remove, the methods.; A drawn region, head and tail, with an invariant on what has come up and the world. Printed by mk_rtj.py. -/
import Derived.Maps.Own
import Derived.OwnWalk
import Derived.StillTailTactics
import Derived.Carry
import Derived.Shelf.Small.Wraps
import Derived.Shelf.Strconv.Itoa0
import Derived.Shelf.Strconv.Itoa1
import Derived.Shelf.LaysM
import Derived.Shelf.Strconv.Itoa2
import Derived.Shelf.Strconv.AppendUint10
import Derived.Shelf.Strconv.AppendInt10
import Derived.Shelf.Strconv.AppendIntPublic10
import Derived.Shelf.Slices.Turned
import Derived.Shelf.Slices.Reverse
import Derived.Ground.Names2Prog
import Derived.Shelf.Slices.Clone
import Derived.Shelf.Slices.SearchI
import Derived.Shelf.Slices.Delete
import Derived.Shelf.Slices.Cells
import Derived.Shelf.Slices.Empties
import Derived.Test.YtmbkjccckmlacaaDoorProg
import Derived.Lib.OwnBridge
import Derived.Lib.SlicesCompact
import Derived.Shelf.Spec.SlicesInsert
import Derived.Shelf.Spec.SlicesInsertGrow
import Derived.Sort.OwnSortedInts
import Derived.Deep.RegionHeld3
import Derived.Test.YtmbkjccckmlacaaDoorPart1
import Derived.Test.YtmbkjccckmlacaaDoorPart1
import Derived.Test.YtmbkjccckmlacaaDoorPart2
import Derived.Test.YtmbkjccckmlacaaDoorPart2
import Derived.Test.YtmbkjccckmlacaaDoorPart2

namespace Go.Proofs.YtmbkjccckmlacaaDoor
open Go.RowKit
set_option linter.unusedVariables false
set_option linter.unusedSimpArgs false

/-- the entries hold these keys and values, in this order -/
def HoldsS (es : Array MapEntry) (l : List (List UInt8 × Value)) : Prop := es.toList.map (fun e => (e.key, e.val)) = l.map fun p => (sV p.1, p.2)

theorem sB_beq (a b : List UInt8) : (sB a == sB b) = (a == b) := by
  show (a.toArray == b.toArray) = (a == b)
  simp
theorem findNowS_at (k : List UInt8) : ∀ (es : List MapEntry) (l : List (List UInt8 × Value)) (i : Nat), es.map (fun e => (e.key, e.val)) = l.map (fun p => (sV p.1, p.2)) →
    Instr.findNow .string (sV k) es i = some ((l.zipIdx i).find? (fun p => p.1.1 == k) |>.map fun p => (p.2, p.1.2))
  | [], l, i, h => by
    obtain rfl : l = [] := by simpa using h.symm
    rfl
  | e :: es, [], i, h => by simp at h
  | e :: es, (n, v) :: l, i, h => by
    simp only [List.map_cons, List.cons.injEq, Prod.mk.injEq] at h
    obtain ⟨⟨h1, h2⟩, h3⟩ := h
    have ih := findNowS_at k es l (i + 1) h3
    simp only [Instr.findNow, h1, Instr.sameNow, if_true, List.zipIdx_cons, List.find?_cons]
    by_cases hn : n = k
    · subst hn; simp [h2, sB_beq]
    · have e1 : (n == k) = false := by simpa using hn
      have e2 : (k == n) = false := by simpa using Ne.symm hn
      simp only [e1, e2]
      rw [sB_beq, e2]
      exact ih

variable {P : Program}
open Go.MapKept

theorem holdsS_find {es : Array MapEntry} {l : List (List UInt8 × Value)} (h : HoldsS es l) (kt : TypeId) (hk : P.underlying kt = some .string) (k : List UInt8) (w : World) :
    (Instr.findKey kt (sV k) es.toList).run P w = .ok ((l.zipIdx 0).find? (fun p => p.1.1 == k) |>.map fun p => (p.2, p.1.2)) w := by
  simp [Instr.findKey, run_underlying hk, findNowS_at k es.toList l 0 h, Result.andThen]

theorem check_str (kt : TypeId) (hk : P.underlying kt = some .string) (em : Bool) (k : List UInt8) (w : World) : (Instr.checkKey em 10000 kt (sV k)).run P w = .ok () w := by
  rw [show (10000 : Nat) = 9999 + 1 from rfl, Instr.checkKey]
  simp [run_underlying hk, Result.andThen]

theorem zipS_find (k : List UInt8) : ∀ (l : List (List UInt8 × Value)) (i : Nat), ((l.zipIdx i).find? (fun p => p.1.1 == k)).map (fun p => p.1.2) = (l.find? (fun p => p.1 == k)).map (·.2)
  | [], _ => rfl
  | (n, v) :: l, i => by
    simp only [List.zipIdx_cons, List.find?_cons]
    cases h : n == k with
    | true => rfl
    | false => exact zipS_find k l (i + 1)

/-- a look-up -/
theorem run_lookup_str {es : Array MapEntry} {clock b : Nat} {l : List (List UInt8 × Value)} {t kt e : TypeId} {w : World} (ht : P.underlying t = some (.map kt e)) (hk : P.underlying kt = some .string) (hb : w.heap[b]? = some (.map es clock)) (h : HoldsS es l) (z : Value) (hz : (zeroValue e).run P w = .ok z w) (k : List UInt8) (c : Bool) :
    (Instr.lookup t (.map (some b)) (sV k) c).run P w = .ok (if c then .tuple #[(((l.find? (fun p => p.1 == k)).map (·.2))).getD z, .bool ((l.find? (fun p => p.1 == k)).map (·.2)).isSome] else (((l.find? (fun p => p.1 == k)).map (·.2))).getD z) w := by
  rw [← zipS_find k l 0]
  have hf := holdsS_find (P := P) h kt hk k w
  simp only [Instr.lookup, Sem.run_bind, run_underlying ht, Go.MapKept.run_getObj_map hb, check_str kt hk, hf, Result.andThen, Sem.run_pure]
  cases (l.zipIdx 0).find? (fun p => p.1.1 == k) with
  | none => simp [hz, Result.andThen]
  | some x => simp

/-- a store of a new key -/
theorem run_insert_newS {es : Array MapEntry} {clock b : Nat} {l : List (List UInt8 × Value)} {t kt e : TypeId} {w : World} (ht : P.underlying t = some (.map kt e)) (hk : P.underlying kt = some .string) (hb : w.heap[b]? = some (.map es clock)) (h : HoldsS es l) (k : List UInt8) (hno : l.all (fun p => p.1 != k) = true) (v : Value) :
    ∃ es' clock' W, (Instr.mapUpdate t (.map (some b)) (sV k) v).run P w = .ok () W ∧ HoldsS es' (l ++ [(k, v)]) ∧ Turn b (.map es' clock') w W := by
  have hf := holdsS_find (P := P) h kt hk k w
  have hn : (l.zipIdx 0).find? (fun p => p.1.1 == k) = none := by
    have hz := zipS_find k l 0
    have h0 : l.find? (fun p => p.1 == k) = none := by
      rw [List.find?_eq_none]
      intro x hx
      have := List.all_eq_true.1 hno x hx
      simpa using this
    rw [h0] at hz
    simpa using hz
  rw [hn] at hf
  have hlt := lt_of_block hb
  refine ⟨es.push { key := sV k, val := v, born := clock }, clock + 1, { w with heap := w.heap.setIfInBounds b (.map (es.push { key := sV k, val := v, born := clock }) (clock + 1)) }, ?_, ?_, ?_⟩
  · simp only [Instr.mapUpdate, Sem.run_bind, run_underlying ht, Go.MapKept.run_getObj_map hb, check_str kt hk, hf, Result.andThen]
    simp [run_setObj_map _ hb]
  · unfold HoldsS at h ⊢
    simp [h]
  · exact ⟨rfl, rfl, rfl, by simp, by simp [hlt], fun j hj hne => by simp [Array.getElem?_setIfInBounds_ne (Ne.symm hne)]⟩

/-- block b is a map with these entries -/
def MapSAt (w : World) (b : Nat) (l : List (List UInt8 × Value)) : Prop := ∃ es clock, w.heap[b]? = some (.map es clock) ∧ HoldsS es l
theorem MapSAt.ext {w W : World} {b : Nat} {l : List (List UInt8 × Value)} (h : MapSAt w b l) (hE : Ext w W) : MapSAt W b l := by
  obtain ⟨es, c, h1, h2⟩ := h
  exact ⟨es, c, (hE.below.block b (lt_of_block h1)).trans h1, h2⟩
theorem MapSAt.lt {w : World} {b : Nat} {l : List (List UInt8 × Value)} (h : MapSAt w b l) : b < w.heap.size := by
  obtain ⟨es, c, h1, h2⟩ := h
  exact lt_of_block h1
theorem MapSAt.made (w : World) : MapSAt (w.alloc (.map #[] 0)) w.heap.size [] := ⟨#[], 0, alloc_here _ _, rfl⟩

variable {P : Program} {ops : Array Oper} {rest : List Oper} {o : Oper} {a : Act} {Q : Exit → Act → World → Prop}
theorem wp_insertS {w : World} (hg : o.guard = none) (m x v : Operand) (t : TypeId) (hop : o.op = Op.insert t m x v) (kt e : TypeId) (ht : P.underlying t = some (.map kt e)) (hk : P.underlying kt = some .string)
    (b : Nat) (l : List (List UInt8 × Value)) (hm : a.eval m = .map (some b)) (h : MapSAt w b l) (k : List UInt8) (val : Value) (hx : a.eval x = sV k) (hv : a.eval v = val) (hno : l.all (fun p => p.1 != k) = true)
    (hK : ∀ W, MapSAt W b (l ++ [(k, val)]) → Below b w W → (∀ j, j < w.heap.size → j ≠ b → W.heap[j]? = w.heap[j]?) → wpList P ops Q rest (a.put o.dst undef) W) : wpList P ops Q (o :: rest) a w := by
  obtain ⟨es, c, h1, h2⟩ := h
  obtain ⟨es', c', W, hrun, h3, h4⟩ := run_insert_newS ht hk h1 h2 k hno val
  refine wpList_plain hg fun K' hK' => ?_
  unfold Oper.wp
  simp [execOp, hop, hm, hx, hv, hrun, Result.andThen]
  exact hK' _ _ (hK W ⟨es', c', h4.here, h3⟩ (h4.below (Nat.le_refl _) (Nat.le_of_lt (lt_of_block h1))) h4.other)

end Go.Proofs.YtmbkjccckmlacaaDoor

namespace Go.Proofs.YtmbkjccckmlacaaDoor
open Go.RowKit
set_option linter.unusedVariables false
set_option linter.unusedSimpArgs false

abbrev tSr : TypeId := 79
/-- where a searcher lies, and what it points to -/
structure SA where
  p : Nat
  c1 : Nat
  c2 : Nat
  la : Option Addr
  lc : Nat
  g : Nat
/-- what the searcher's block holds -/
abbrev srO (A : SA) (k z : Int) (n : Nat) (mu : Nat) : Obj := .cells #[.int .i64 k, .int .i64 z, .slice A.la n A.lc, .slice (some ⟨A.g, 0, none⟩) n n, .int .i64 (mu : Int), .map (some A.c1), .map (some A.c2)] tSr (0, 0)
/-- what the slice of the sets of those that precede holds -/
abbrev bfO (f : Nat → Nat) (n : Nat) : Obj := .cells ((List.range n).map fun i => Value.int .i64 ((f i : Nat) : Int)).toArray 3 (0, 0)
structure Sr (w : World) (A : SA) (k z : Int) (l : List Cl) : Prop where
  box : w.heap[A.p]? = some (srO A k z l.length (must l))
  hs : HsAt w A.la l
  bf : w.heap[A.g]? = some (bfO (bef l) l.length)
theorem newS_bad (k z : Int) (l : List Cl) (a : Option Addr) (c : Nat) (w : World) (h : HsAt w a l) (hm : l.length ≤ maxLen) (hb : srE k z l ≠ 0) :
    Gives Tryd.prog 32 #[.agg #[.int .i64 k, .int .i64 z], .slice a l.length c] w (.tuple #[.pointer none, .int .i64 (srE k z l)]) := by
  unfold Gives
  have HS := Lib.hid (show srE k z l = if mdE k z ≠ 0 then mdE k z else if ckH l ≠ 0 then 1 else if 12 < l.length then 4 else 0 from rfl)
  generalize srE k z l = R at *
  have c0 := mdb0 w k z
  have c1 := mdb1 w k z
  have HX := Lib.hid (ext_allocN w (.cells #[.int .i64 k, .int .i64 z] 23))
  have HH := Lib.hid (fun W (hW : Ext w W) => Check_any l a c W hm (h.ext hW))
  unfold maxLen at hm
  clear h
  generalize hwk : w.alloc (.cells #[.int .i64 k, .int .i64 z] 23) = wk at *
  have HM := Lib.hid (checkModel_any k z wk)
  by_cases h1 : mdE k z = 0
  · rw [h1] at HM
    have HS1 := Lib.hid (show R = if ckH l ≠ 0 then 1 else if 12 < l.length then 4 else 0 by rw [HS.out, if_neg (by rw [h1]; simp)])
    by_cases h2 : ckH l = 0
    · have HR := Lib.hid (show R = 4 by
        have := HS1.out
        rw [if_neg (by rw [h2]; simp)] at this
        split at this
        · exact this
        · exact absurd this hb)
      have h12 : decide ((12 : Int) < ((l.length : Nat) : Int)) = true := by
        have := HS1.out
        rw [if_neg (by rw [h2]; simp)] at this
        split at this
        · simp; omega
        · exact absurd this hb
      rw [h2] at HH
      clear hb HS HS1 h1 h2
      go_enter Tryd.func32, Tryd.ntmps32
      go_wp2_with fail
      refine HM.out.mono ?_
      intro w1 hB
      have HE1 := Lib.hid (Ext.trans HX.out hB)
      clear hB
      go_wp2_with fail
      refine (HH.out _ HE1.out).mono ?_
      intro w2 hB
      have HE2 := Lib.hid (Ext.trans HE1.out hB)
      clear hB
      go_wp2
      go_ret2
      exact ⟨by rw [HR.out]; rfl, HE2.out⟩
    · have HR := Lib.hid (show R = 1 by rw [HS1.out, if_pos h2])
      generalize ckH l = E at *
      have g2 : (E != 0) = true := by simpa using h2
      clear hb HS HS1 h1 h2
      go_enter Tryd.func32, Tryd.ntmps32
      go_wp2_with fail
      refine HM.out.mono ?_
      intro w1 hB
      have HE1 := Lib.hid (Ext.trans HX.out hB)
      clear hB
      go_wp2_with fail
      refine (HH.out _ HE1.out).mono ?_
      intro w2 hB
      have HE2 := Lib.hid (Ext.trans HE1.out hB)
      clear hB
      go_wp2
      go_ret2
      exact ⟨by rw [HR.out]; rfl, HE2.out⟩
  · have HR := Lib.hid (show R = mdE k z by rw [HS.out, if_pos h1])
    generalize mdE k z = E at *
    have g2 : (E != 0) = true := by simpa using h1
    clear hb HS h1
    go_enter Tryd.func32, Tryd.ntmps32
    go_wp2_with fail
    refine HM.out.mono ?_
    intro w1 hB
    have HE1 := Lib.hid (Ext.trans HX.out hB)
    clear hB
    go_wp2
    go_ret2
    exact ⟨by rw [HR.out]; rfl, HE1.out⟩
end Go.Proofs.YtmbkjccckmlacaaDoor

namespace Go.Proofs.YtmbkjccckmlacaaDoor
open Go.RowKit
set_option linter.unusedVariables false
set_option linter.unusedSimpArgs false

theorem made_bf (n : Nat) : (Go.madeCells #[.int .i64 0] n) = ((List.range n).map fun i => Value.int .i64 ((orL [] i : Nat) : Int)).toArray := by
  apply Array.toList_inj.1
  rw [toList_madeCells_one]
  simp [orL, Function.comp_def, List.map_const']
/-- what a row of pairs holds -/
theorem RowEd.look {base : Nat} {v : Value} {l : List (Nat × Nat)} {w : World} (h : RowEd base v l w) : ∃ x cc, v = .slice x l.length cc ∧ ∀ m (hm : m < l.length), ∃ b cur, x = some ⟨b, 0, none⟩ ∧ base ≤ b ∧ w.heap[b]? = some (.cells cur tEd (0, 0)) ∧ cur[m * 2 + 0]? = some (.int .i64 ((l[m].1 : Nat) : Int)) ∧ cur[m * 2 + 1]? = some (.int .i64 ((l[m].2 : Nat) : Int)) := by
  obtain ⟨h1, h2⟩ := h
  rcases h2 with ⟨e, h0⟩ | ⟨b, cap, cur, rfl, hb, hg, hn, hm, hs, ht⟩
  · exact ⟨none, 0, by rw [e, h0], fun m hm => by omega⟩
  · refine ⟨_, _, rfl, fun m hm => ⟨b, cur, rfl, hb, hg, ?_, ?_⟩⟩
    · have e := flatEd_get l m hm 0 (by omega)
      rw [← ht, List.getElem?_take, if_pos (by omega)] at e
      simpa [cEd] using e
    · have e := flatEd_get l m hm 1 (by omega)
      rw [← ht, List.getElem?_take, if_pos (by omega)] at e
      simpa [cEd] using e
theorem bfO_get (f : Nat → Nat) (n k : Nat) (h : k < n) : ((List.range n).map fun i => Value.int .i64 ((f i : Nat) : Int)).toArray[k]? = some (.int .i64 ((f k : Nat) : Int)) := by simp [h]
theorem bfO_set (f : Nat → Nat) (n k m : Nat) : ((List.range n).map fun i => Value.int .i64 ((f i : Nat) : Int)).toArray.setIfInBounds k (.int .i64 (m : Int)) = ((List.range n).map fun i => Value.int .i64 (((if k = i then m else f i : Nat)) : Int)).toArray := by
  apply Array.toList_inj.1
  apply List.ext_getElem?
  intro j
  simp only [Array.toList_setIfInBounds, List.getElem?_set]
  by_cases hj : j < n
  · by_cases hk : k = j
    · subst hk; simp [hj]
    · simp [hj, hk]
  · by_cases hk : k = j <;> simp [hj, hk]
theorem bf_turn {L : List (Nat × Nat)} {m g n : Nat} {w W : World} (hm : m < L.length) (h : Turn g (bfO (orL (L.take m)) n) w W) :
    Turn g (bfO (orL (L.take (m + 1))) n) w (W.setCell ⟨g, (L[m]).2, none⟩ (.int .i64 ((orL (L.take m) (L[m]).2 ||| 2 ^ (L[m]).1 : Nat) : Int))) := by
  have h2 := h.setCell (i := (L[m]).2) (.int .i64 ((orL (L.take m) (L[m]).2 ||| 2 ^ (L[m]).1 : Nat) : Int))
  rw [bfO_set] at h2
  have e : (fun i : Nat => Value.int .i64 (((if (L[m]).2 = i then orL (L.take m) (L[m]).2 ||| 2 ^ (L[m]).1 else orL (L.take m) i : Nat)) : Int)) = fun i : Nat => Value.int .i64 ((orL (L.take (m + 1)) i : Nat) : Int) := by
    funext i
    rw [List.take_succ_eq_append_getElem hm, orL_snoc]
    by_cases hi : (L[m]).2 = i
    · subst hi; simp
    · simp [hi]
  rw [e] at h2
  exact h2
def mustP (l : List Cl) (j : Nat) : Nat := msk (mustF l) j
theorem mustP_succ {l : List Cl} {j : Nat} (h : j < l.length) : mustP l (j + 1) = if l[j].en ≠ -1 then mustP l j ||| 2 ^ j else mustP l j := by
  unfold mustP
  rw [msk]
  unfold mustF
  rw [List.getElem?_eq_getElem h]
  simp only [decide_eq_true_eq]
theorem mustP_lt (l : List Cl) (j : Nat) : mustP l j < 2 ^ j := msk_lt _ _
theorem bfO_congr {f f' : Nat → Nat} {n : Nat} (h : ∀ i, i < n → f i = f' i) : bfO f n = bfO f' n := by
  have e : ((List.range n).map fun i => Value.int .i64 ((f i : Nat) : Int)) = (List.range n).map fun i => Value.int .i64 ((f' i : Nat) : Int) :=
    List.map_congr_left (fun i hi => by rw [h i (List.mem_range.1 hi)])
  exact congrArg (fun l : List Value => Obj.cells l.toArray 3 (0, 0)) e
def NsP (w : World) (k z : Int) (l : List Cl) (e : Ending) (w' : World) : Prop :=
  ∃ A : SA, e = .returned (.tuple #[.pointer (some ⟨A.p, 0, none⟩), .int .i64 0]) ∧ Sr w' A k z l ∧ w.heap.size ≤ A.p ∧ w.heap.size ≤ A.c1 ∧ w.heap.size ≤ A.c2 ∧ A.c1 ≠ A.c2 ∧ MapSAt w' A.c1 [] ∧ MapSAt w' A.c2 [] ∧ Ext w w'
set_option maxRecDepth 100000 in
set_option maxHeartbeats 4000000 in
theorem newS_ok (k z : Int) (l : List Cl) (a : Option Addr) (c : Nat) (w : World) (h : HsAt w a l) (hb : srE k z l = 0) :
    Calls Tryd.prog 32 #[.agg #[.int .i64 k, .int .i64 z], .slice a l.length c] w (NsP w k z l) := by
  obtain ⟨hm, hc, hl⟩ : mdE k z = 0 ∧ ckH l = 0 ∧ l.length ≤ 12 := by
    unfold srE at hb
    split at hb
    · next h1 => exact absurd hb h1
    · next h1 =>
      split at hb
      · cases hb
      · next h2 =>
        split at hb
        · cases hb
        · next h3 => exact ⟨Decidable.not_not.1 h1, Decidable.not_not.1 h2, by omega⟩
  have c0 := mdb0 w k z
  have c1 := mdb1 w k z
  have HX := Lib.hid (ext_allocN w (.cells #[.int .i64 k, .int .i64 z] 23))
  have HH := Lib.hid (fun W (hW : Ext w W) => h.ext hW)
  have HCk := Lib.hid (fun W (hW : Ext w W) => show Gives Tryd.prog 14 #[.slice a l.length c] W (.int .i64 0) from hc ▸ Check_any l a c W (by unfold maxLen; omega) (h.ext hW))
  have HBf := Lib.hid (fun W (hW : Ext w W) => Before_any l a c W (h.ext hW) (by omega) hc)
  have HM := Lib.hid (show Gives Tryd.prog 48 #[.agg #[.int .i64 k, .int .i64 z]] (w.alloc (.cells #[.int .i64 k, .int .i64 z] 23)) (.int .i64 0) from hm ▸ checkModel_any k z _)
  have HO : Hid (∀ i (hi : i < l.length), callE l i = 0) := Lib.hid (fun i hi => by
    unfold ckH at hc
    split at hc
    · cases hc
    · split at hc
      · next h1 => exact absurd hc h1
      · next h1 => exact fstE_all (Decidable.not_not.1 h1) i hi)
  have HMD := Lib.hid (fun (W : World) (hW : Ext (w.alloc (.cells #[.int .i64 k, .int .i64 z] 23)) W) => show W.cell? ⟨w.heap.size, 0, none⟩ = some (.int .i64 k) ∧ W.cell? ⟨w.heap.size, 1, none⟩ = some (.int .i64 z) from by
    have hb := (hW.below.block _ (lt_of_block (alloc_here w _))).trans (alloc_here w (.cells #[.int .i64 k, .int .i64 z] 23))
    exact ⟨cell_of hb rfl, cell_of hb rfl⟩)
  clear h hb hm hc
  obtain ⟨len, hlen⟩ : ∃ n, l.length = n := ⟨_, rfl⟩
  have HL := Lib.hid hlen
  rw [hlen] at hl HCk HBf ⊢
  clear hlen
  have d12 : decide ((12 : Int) < (len : Int)) = false := by simp; omega
  have hmk := run_make_row' (P := Tryd.prog) 27 3 (.int .i64 0) 8 Tryd.underlying27 infoI' rfl .i64 .i64 len (by omega) (by omega)
  rw [made_bf] at hmk
  go_enter Tryd.func32, Tryd.ntmps32
  go_wp2_with fail
  refine HM.out.mono ?_
  intro w1 hB
  have HE0 := Lib.hid (show Ext (w.alloc (.cells #[.int .i64 k, .int .i64 z] 23)) w1 from hB)
  clear hB c0 c1
  have HE1 := Lib.hid (Ext.trans HX.out HE0.out)
  go_wp2_with fail
  refine (HCk.out _ HE1.out).mono ?_
  intro w2 hB
  have HE2 := Lib.hid (Ext.trans HE0.out hB)
  have HE2w := Lib.hid (Ext.trans HX.out HE2.out)
  clear hB
  go_wp2_with fail
  refine wp_region_gptail (l1 := [_, _, _, _, _, _, _]) (l2 := [_, _, _]) (by kernel_rfl) (fun j => j == 5 || j == 6) Ext (fun W => Below.refl _ W) (fun W => show Below W.heap.size W { W with drawn := W.drawn + 1 } from ⟨rfl, rfl, rfl, Nat.le_refl _, fun _ _ => rfl⟩) Ext.trans
    (fun i s W => match i with
      | 0 => s 0 = .agg #[.int .i64 k, .int .i64 z]
      | 1 => s 1 = .slice a len c
      | 2 => s 2 = .slice a len c
      | 3 => s 3 = .int .i64 (len : Int)
      | 4 => ∃ g, s 4 = .slice (some ⟨g, 0, none⟩) len len ∧ w2.heap.size ≤ g ∧ W.heap[g]? = some (bfO (orL []) len)
      | 5 => ∃ g, s 5 = .map (some g) ∧ w2.heap.size ≤ g ∧ W.heap[g]? = some (.map #[] 0)
      | 6 => ∃ g, s 6 = .map (some g) ∧ w2.heap.size ≤ g ∧ W.heap[g]? = some (.map #[] 0)
      | _ => True)
    (fun i => [i])
    (by
      intro i s s' W W' h hs hE
      have hs := hs i (by simp)
      match i, h, hs with
      | 0, h, hs => exact hs.trans h
      | 1, h, hs => exact hs.trans h
      | 2, h, hs => exact hs.trans h
      | 3, h, hs => exact hs.trans h
      | 4, ⟨g, h1, h2, h3⟩, hs => exact ⟨g, hs.trans h1, h2, (hE.below.block g (lt_of_block h3)).trans h3⟩
      | 5, ⟨g, h1, h2, h3⟩, hs => exact ⟨g, hs.trans h1, h2, (hE.below.block g (lt_of_block h3)).trans h3⟩
      | 6, ⟨g, h1, h2, h3⟩, hs => exact ⟨g, hs.trans h1, h2, (hE.below.block g (lt_of_block h3)).trans h3⟩
      | i + 7, h, hs => exact trivial)
    (by kernel_rfl) (by kernel_rfl) (by kernel_rfl) 80 rfl (by kernel_rfl) (by kernel_rfl) ?_ ?_
  · intro i op ho a' W hA
    obtain ⟨m0, m1⟩ := HMD.out W (Ext.trans HE2.out hA.rel)
    match i, ho with
    | 0, ho =>
      obtain rfl := Option.some.inj ho
      refine GoesG.toP (by rfl) ?_
      have e1 : a'.eval (.tmp 2) = .pointer (some ⟨w.heap.size, 0, none⟩) := hA.keep 2 (by kernel_rfl)
      refine GoesG.value (.agg #[.int .i64 k, .int .i64 z]) rfl ?_ (Below.refl _ _) (fun s h1 h2 => h1 rfl)
      simp only [execOp, e1]
      simp [go_sem, m0, m1]
    | 1, ho =>
      obtain rfl := Option.some.inj ho
      refine GoesG.toP (by rfl) ?_
      have e1 : a'.eval (.tmp 1) = .slice a len c := hA.keep 1 (by kernel_rfl)
      refine GoesG.value (.slice a len c) rfl ?_ (Below.refl _ _) (fun s h1 h2 => h1 rfl)
      simp only [execOp, e1]
      simp [go_sem]
    | 2, ho =>
      obtain rfl := Option.some.inj ho
      refine GoesG.toP (by rfl) ?_
      have e1 : a'.eval (.tmp 1) = .slice a len c := hA.keep 1 (by kernel_rfl)
      refine GoesG.value (.slice a len c) rfl ?_ (Below.refl _ _) (fun s h1 h2 => h1 rfl)
      simp only [execOp, e1]
      simp [go_sem]
    | 3, ho =>
      obtain rfl := Option.some.inj ho
      refine GoesG.toP (by rfl) ?_
      have e1 : a'.eval (.tmp 27) = .slice a len c := (sv_dst (l := _) rfl).symm.trans (hA.new 2 (by decide) (by kernel_rfl))
      refine GoesG.value (.int .i64 (len : Int)) rfl ?_ (Below.refl _ _) (fun s h1 h2 => h1 rfl)
      have e2 : a'.tmps[27]?.getD undef = .slice a len c := by simpa [Act.eval] using e1
      simp only [execOp, e1]
      simp [go_sem, e2]
    | 4, ho =>
      obtain rfl := Option.some.inj ho
      refine GoesG.toP (by rfl) ?_
      have e1 : a'.eval (.tmp 28) = .int .i64 (len : Int) := (sv_dst (l := _) rfl).symm.trans (hA.new 3 (by decide) (by kernel_rfl))
      refine GoesG.value (.slice (some ⟨W.heap.size, 0, none⟩) len len) (W' := W.alloc (bfO (orL []) len)) rfl ?_ (ext_allocN _ _) (fun s h1 h2 => ⟨W.heap.size, h1 rfl, hA.rel.size, alloc_here _ _⟩)
      simp only [execOp, e1]
      simp [go_sem, hmk]
    | 5, ho =>
      obtain rfl := Option.some.inj ho
      refine GoesP.alloc (.map (some W.heap.size)) (W' := W.alloc (.map #[] 0)) rfl rfl ?_ (ext_allocN _ _) (fun s h1 h2 => ⟨W.heap.size, h1 rfl, hA.rel.size, alloc_here _ _⟩) (fun j s hal hj e => ?_)
      · simp only [execOp]
        simp [go_sem, run_makeMap]
      · have hj3 : j = 5 ∨ j = 6 := by have h9 := hal; simp at h9; omega
        rcases hj3 with rfl | rfl
        · obtain ⟨g, h1, h2, h3⟩ := hj
          rw [h1] at e
          cases e
          exact absurd (lt_of_block h3) (Nat.lt_irrefl _)
        · obtain ⟨g, h1, h2, h3⟩ := hj
          rw [h1] at e
          cases e
          exact absurd (lt_of_block h3) (Nat.lt_irrefl _)
    | 6, ho =>
      obtain rfl := Option.some.inj ho
      refine GoesP.alloc (.map (some W.heap.size)) (W' := W.alloc (.map #[] 0)) rfl rfl ?_ (ext_allocN _ _) (fun s h1 h2 => ⟨W.heap.size, h1 rfl, hA.rel.size, alloc_here _ _⟩) (fun j s hal hj e => ?_)
      · simp only [execOp]
        simp [go_sem, run_makeMap]
      · have hj3 : j = 5 ∨ j = 6 := by have h9 := hal; simp at h9; omega
        rcases hj3 with rfl | rfl
        · obtain ⟨g, h1, h2, h3⟩ := hj
          rw [h1] at e
          cases e
          exact absurd (lt_of_block h3) (Nat.lt_irrefl _)
        · obtain ⟨g, h1, h2, h3⟩ := hj
          rw [h1] at e
          cases e
          exact absurd (lt_of_block h3) (Nat.lt_irrefl _)
    | i + 7, ho => cases ho
  · intro vs w4 hvs hG hΦ hpair
    obtain ⟨y0, y1, y2, y3, y4, y5, y6, rfl⟩ : ∃ y0 y1 y2 y3 y4 y5 y6, vs = [y0, y1, y2, y3, y4, y5, y6] := by
      match vs, hvs with
      | [y0, y1, y2, y3, y4, y5, y6], _ => exact ⟨_, _, _, _, _, _, _, rfl⟩
    obtain ⟨g, hy4, hg, hgb⟩ : ∃ g, y4 = .slice (some ⟨g, 0, none⟩) len len ∧ w2.heap.size ≤ g ∧ w4.heap[g]? = some (bfO (orL []) len) := hΦ 4 (by decide)
    obtain ⟨q1, hy5, hq1, hqb1⟩ : ∃ g, y5 = .map (some g) ∧ w2.heap.size ≤ g ∧ w4.heap[g]? = some (.map #[] 0) := hΦ 5 (by decide)
    obtain ⟨q2, hy6, hq2, hqb2⟩ : ∃ g, y6 = .map (some g) ∧ w2.heap.size ≤ g ∧ w4.heap[g]? = some (.map #[] 0) := hΦ 6 (by decide)
    have hn : q1 ≠ q2 := fun e => hpair 5 6 (by decide) (by decide) (by decide) rfl rfl (by show y5 = y6; rw [hy5, hy6, e])
    have hy0 : y0 = .agg #[.int .i64 k, .int .i64 z] := hΦ 0 (by decide)
    have hy1 : y1 = .slice a len c := hΦ 1 (by decide)
    have HE4 := Lib.hid (Ext.trans HE2w.out hG)
    have HGB := Lib.hid hgb
    have HQ1 := Lib.hid hqb1
    have HQ2 := Lib.hid hqb2
    have HN := Lib.hid hn
    have hwg : w.heap.size ≤ g := Nat.le_trans HE2w.out.size hg
    have hwq1 : w.heap.size ≤ q1 := Nat.le_trans HE2w.out.size hq1
    have hwq2 : w.heap.size ≤ q2 := Nat.le_trans HE2w.out.size hq2
    clear hΦ hvs hG hpair hgb hqb1 hqb2 hn hg hq1 hq2
    subst hy0 hy1 hy4 hy5 hy6
    simp only [putAll, Act.put, List.setIfInBounds_toArray, List.set_cons_succ, List.set_cons_zero]
    go_wp2_with fail
    obtain ⟨w5, hw5⟩ : ∃ W, W = w4.alloc (srO ⟨w4.heap.size, q1, q2, a, c, g⟩ k z len (mustP l 0)) := ⟨_, rfl⟩
    have HP5 := Lib.hid (show w5.heap[w4.heap.size]? = some (srO ⟨w4.heap.size, q1, q2, a, c, g⟩ k z len (mustP l 0)) by rw [hw5]; exact alloc_here _ _)
    have HE5 := Lib.hid (show Ext w4 w5 by rw [hw5]; exact ext_allocN _ _)
    have hgz : g < w4.heap.size := lt_of_block HGB.out
    have hq1z : q1 < w4.heap.size := lt_of_block HQ1.out
    have hq2z : q2 < w4.heap.size := lt_of_block HQ2.out
    have hw5' : w4.alloc (.cells #[.int .i64 k, .int .i64 z, .slice a len c, .slice (some ⟨g, 0, none⟩) len len, .int .i64 0, .map (some q1), .map (some q2)] tSr) = w5 := hw5.symm
    have hpz : w4.heap.size < w5.heap.size := lt_of_block HP5.out
    have HEw5 := Lib.hid (Ext.trans HE4.out HE5.out)
    have HGB5 := Lib.hid ((HE5.out.below.block g hgz).trans HGB.out)
    have HQ15 := Lib.hid ((HE5.out.below.block q1 hq1z).trans HQ1.out)
    have HQ25 := Lib.hid ((HE5.out.below.block q2 hq2z).trans HQ2.out)
    have hwp : w.heap.size ≤ w4.heap.size := HE4.out.size
    rw [hw5']
    clear hw5 hw5'
    generalize w4.heap.size = p at *
    refine (HBf.out _ HEw5.out).mono ?_
    rintro e w6 ⟨v, rfl, hrow, hE⟩
    have HE6 := Lib.hid hE
    obtain ⟨x, cc, rfl, hlook⟩ := hrow.look
    have HLK := Lib.hid hlook
    clear hrow hE hlook
    have HLl := Lib.hid (show (bfR l).length ≤ 20000 by rw [← bfP_end]; exact bfP_le l _ _ (by have := HL.out; omega) (by omega) (by have := HL.out; omega))
    have HLm := Lib.hid (fun p (hp : p ∈ bfR l) => show p.1 < len ∧ p.2 < len by have := mem_bfR.1 hp; have := HL.out; omega)
    have HLo := Lib.hid (fun i (hi : i < len) => show orL (bfR l) i = bef l i from orL_bef (by have := HL.out; omega))
    generalize bfR l = L at *
    obtain ⟨nL, hnL⟩ : ∃ n, L.length = n := ⟨_, rfl⟩
    have HNL := Lib.hid hnL
    rw [hnL] at HLl ⊢
    clear hnL
    have hnl := HLl.out
    have HP6 := Lib.hid ((HE6.out.below.block p hpz).trans HP5.out)
    have HG6 := Lib.hid ((HE6.out.below.block g (by omega)).trans HGB5.out)
    have HEw6 := Lib.hid (Ext.trans HEw5.out HE6.out)
    have HQ16 := Lib.hid ((HE6.out.below.block q1 (by omega)).trans HQ15.out)
    have HQ26 := Lib.hid ((HE6.out.below.block q2 (by omega)).trans HQ25.out)
    have hz65 : w5.heap.size ≤ w6.heap.size := HE6.out.size
    have HT6 := Lib.hid (show Turn g (bfO (orL (L.take 0)) len) w6 w6 from Turn.refl HG6.out)
    have HTK := Lib.hid (fun (W : World) o (hT : Turn g o w6 W) => show W.heap[p]? = some (srO ⟨p, q1, q2, a, c, g⟩ k z len (mustP l 0)) ∧ Ext w W ∧ w5.heap.size ≤ W.heap.size from
      ⟨(hT.other p (by omega) (by omega)).trans HP6.out, Below.trans HEw6.out (hT.below hwg (by omega)), by have := hT.size; omega⟩)
    go_wp2
    go_loopw [41] (fun i wr => ∃ m : Nat, m ≤ nL ∧ i = .int .i64 (m : Int) ∧ Turn g (bfO (orL (L.take m)) len) w6 wr) (fun i _ => nL - (intOf i).toNat)
    case atStart => exact ⟨0, Nat.zero_le _, rfl, HT6.out⟩
    case round =>
      obtain ⟨m, hm, rfl, hT⟩ := hrel
      have HT := Lib.hid hT
      obtain ⟨hP, hEr, hzr⟩ := HTK.out _ _ hT
      have HEr := Lib.hid hEr
      clear hT hEr
      by_cases hlt : m < nL
      · have hlt' : m < L.length := by rw [HNL.out]; exact hlt
        have HLT := Lib.hid hlt'
        obtain ⟨b, cur, rfl, hb, hbb, k0, k1⟩ := HLK.out m HLT.out
        obtain ⟨hi1, hi2⟩ := HLm.out _ (List.getElem_mem HLT.out)
        have HBT := Lib.hid (fun W (hT : Turn g (bfO (orL (L.take m)) len) w6 W) => bf_turn HLT.out hT)
        have hbr := (HT.out.other b (lt_of_block hbb) (by omega)).trans hbb
        have e0 : wr.cell? ⟨b, m * 2, none⟩ = some (.int .i64 (((L[m]'HLT.out).1 : Nat) : Int)) := cell_of hbr k0
        have e1 := cell_of hbr k1
        have hbz : b < wr.heap.size := lt_of_block hbr
        have hgz2 : g < wr.heap.size := HT.out.lt
        have s3 := cell_of hP (i := 3) rfl
        have hpzr : p < wr.heap.size := lt_of_block hP
        have gk := cell_of HT.out.here (bfO_get (orL (L.take m)) len _ hi2)
        have gf := free_of (i := (L[m]'HLT.out).2) HT.out.here
        have HSm := Lib.hid (show orL (L.take m) (L[m]'HLT.out).2 < 2 ^ 62 from Nat.lt_of_lt_of_le (orL_lt (n := len) (fun q hq => (HLm.out q (List.mem_of_mem_take hq)).1)) (Nat.pow_le_pow_right (by omega) (by omega)))
        generalize orL (L.take m) (L[m]'HLT.out).2 = S at *
        generalize (L[m]'HLT.out).1 = pi at *
        generalize (L[m]'HLT.out).2 = pk at *
        have hsh := shl_one (i := pi) (by omega)
        have hor := i64_or S (2 ^ pi) HSm.out (pow_small (by omega))
        generalize hT : S ||| 2 ^ pi = T at *
        generalize hP2 : 2 ^ pi = P2 at *
        have HPw := Lib.hid hP
        have hpi0 : (0 : Int) ≤ (pi : Int) := by omega
        have hpi1 : (pi : Int) ≤ 64 := by omega
        have hpk0 : (0 : Int) ≤ (pk : Int) := by omega
        have hpk1 : (pk : Int) < (len : Int) := by omega
        have HTw := Lib.hid (HT.out.alloc (.cells #[.int .i64 (pi : Int), .int .i64 (pk : Int)] tEd))
        have HWB := Lib.hid (alloc_here wr (.cells #[.int .i64 (pi : Int), .int .i64 (pk : Int)] tEd))
        have HEa := Lib.hid (ext_allocN wr (.cells #[.int .i64 (pi : Int), .int .i64 (pk : Int)] tEd))
        have HGk := Lib.hid ((HEa.out.below.cell (p := ⟨g, pk, none⟩) hgz2).trans gk)
        clear hT hP2 k0 k1 hb hbb hbr hlt' hP s3 gk gf hpzr
        go_wp2_with fail
        generalize hw7 : wr.alloc (.cells #[.int .i64 (pi : Int), .int .i64 (pk : Int)] tEd) = w7 at *
        have s3 := cell_of ((HEa.out.below.block _ (lt_of_block HPw.out)).trans HPw.out) (i := 3) rfl
        have x0 := cell_of HWB.out (i := 0) rfl
        have x1 := cell_of HWB.out (i := 1) rfl
        have gk := HGk.out
        have gf := free_of (i := pk) HTw.out.here
        go_still_tail 12, (by kernel_rfl)
        go_wp2
        go_roundw
        case rel => exact ⟨m + 1, by omega, by go_num, (HBT.out _ HTw.out).drew⟩
        case measure => simp [intOf]; omega
      · have hml : m = nL := by omega
        subst m
        obtain ⟨wo, rfl⟩ : ∃ wo : World, wo = wr := ⟨_, rfl⟩
        have HGo := Lib.hid (show wo.heap[g]? = some (bfO (bef l) len) by
          have := HT.out.here
          rw [List.take_of_length_le (by rw [HNL.out]; exact Nat.le_refl _), bfO_congr HLo.out] at this
          exact this)
        have HPo := Lib.hid (show Turn p (srO ⟨p, q1, q2, a, c, g⟩ k z len (mustP l 0)) wo wo from Turn.refl hP)
        have HQo1 := Lib.hid (show wo.heap[q1]? = some (.map #[] 0) from (HT.out.other q1 (by omega) (fun e => by
          have h1 := HQ16.out
          have h2 := HG6.out
          rw [e, h2] at h1
          cases h1)).trans HQ16.out)
        have HQo2 := Lib.hid (show wo.heap[q2]? = some (.map #[] 0) from (HT.out.other q2 (by omega) (fun e => by
          have h1 := HQ26.out
          have h2 := HG6.out
          rw [e, h2] at h1
          cases h1)).trans HQ26.out)
        have hgo : g < wo.heap.size := lt_of_block HGo.out
        have hpo : p < wo.heap.size := lt_of_block hP
        have hq1o : q1 < wo.heap.size := lt_of_block HQo1.out
        have hq2o : q2 < wo.heap.size := lt_of_block HQo2.out
        have HRE := Lib.hid (fun (W : World) o (hT : Turn p o wo W) => show Ext w W from Below.trans HEr.out (hT.below (by omega) HEr.out.size))
        clear hP hlt hm
        go_wp2
        go_loopw [61] (fun i wr => ∃ j : Nat, j ≤ len ∧ i = .int .i64 (j : Int) ∧ Turn p (srO ⟨p, q1, q2, a, c, g⟩ k z len (mustP l j)) wo wr) (fun i _ => len - (intOf i).toNat)
        case atStart => exact ⟨0, Nat.zero_le _, rfl, HPo.out⟩
        case round =>
          obtain ⟨j, hj, rfl, hT⟩ := hrel
          have HTj := Lib.hid hT
          have HEj := Lib.hid (HRE.out _ _ hT)
          have hpr : p < wr.heap.size := hT.lt
          clear hT
          by_cases hlt : j < len
          · have hlt' : j < l.length := by rw [HL.out]; exact hlt
            have HLT := Lib.hid hlt'
            obtain ⟨b, off, rfl, c0, c1, c2, c3, c4, c5⟩ := HH.out wr HEj.out j HLT.out
            obtain ⟨-, -, -, o5⟩ := clE_ok HLT.out (HO.out j HLT.out)
            have HMS := Lib.hid (mustP_succ HLT.out)
            generalize l[j]'HLT.out = x at *
            obtain ⟨tk, me, ar, re, be, en⟩ := x
            dsimp only at *
            clear hlt'
            by_cases he : 0 ≤ en
            · have g1 : decide (0 ≤ en) = true := by simpa using he
              have HMT := Lib.hid (show mustP l (j + 1) = mustP l j ||| 2 ^ j by rw [HMS.out, if_pos (by omega)])
              have HSm := Lib.hid (show mustP l j < 2 ^ 62 from Nat.lt_of_lt_of_le (mustP_lt l j) (Nat.pow_le_pow_right (by omega) (by omega)))
              have HWj := Lib.hid (HTj.out.alloc (cClO ⟨tk, me, ar, re, be, en⟩))
              have HWB := Lib.hid (alloc_here wr (cClO ⟨tk, me, ar, re, be, en⟩))
              generalize mustP l j = S at *
              have hsh := shl_one (i := j) (by omega)
              have hor := i64_or S (2 ^ j) HSm.out (pow_small (by omega))
              generalize hT : S ||| 2 ^ j = T at *
              generalize hP2 : 2 ^ j = P2 at *
              have hj0 : (0 : Int) ≤ (j : Int) := by omega
              have hj1 : (j : Int) ≤ 64 := by omega
              clear hT hP2 he o5
              go_wp2_with fail
              generalize hw7 : wr.alloc (cClO ⟨tk, me, ar, re, be, en⟩) = w7 at *
              have x5 := cell_of HWB.out (i := 5) rfl
              have s4 := cell_of HWj.out.here (i := 4) rfl
              have sf := free_of (i := 4) HWj.out.here
              go_wp2_with fail
              go_still_tail 7, (by kernel_rfl)
              go_wp2
              go_roundw
              case rel => exact ⟨j + 1, by omega, by go_num, by rw [HMT.out]; exact (HWj.out.setCell (i := 4) (.int .i64 (T : Int))).drew⟩
              case measure => simp [intOf]; omega
            · have g1 : decide (0 ≤ en) = false := by simpa using he
              have HMT := Lib.hid (show mustP l (j + 1) = mustP l j by rw [HMS.out, if_neg (by omega)])
              clear he o5
              go_wp2
              go_roundw
              case rel => exact ⟨j + 1, by omega, by go_num, by rw [HMT.out]; exact HTj.out.alloc _⟩
              case measure => simp [intOf]; omega
          · have hjl : j = len := by omega
            subst j
            have HSr : Hid (Sr wr ⟨p, q1, q2, a, c, g⟩ k z l) := Lib.hid ⟨by have := HTj.out.here; rw [HL.out]; show _ = some (srO _ k z len (msk (mustF l) l.length)); rw [HL.out]; exact this, HH.out wr HEj.out, by rw [HL.out]; exact (HTj.out.other g hgo (by omega)).trans HGo.out⟩
            have HQf1 := Lib.hid (show MapSAt wr q1 [] from ⟨#[], 0, (HTj.out.other q1 hq1o (by omega)).trans HQo1.out, rfl⟩)
            have HQf2 := Lib.hid (show MapSAt wr q2 [] from ⟨#[], 0, (HTj.out.other q2 hq2o (by omega)).trans HQo2.out, rfl⟩)
            go_wp2
            go_ret2
            exact ⟨⟨p, q1, q2, a, c, g⟩, rfl, HSr.out, hwp, hwq1, hwq2, HN.out, HQf1.out, HQf2.out, HEj.out⟩
end Go.Proofs.YtmbkjccckmlacaaDoor

namespace Go.Proofs
open Go.Shelf
def Tryd.lays215_ren : Go.Shelf.Ren := ⟨fun | 215 => 106 | n => n, fun | 3 => 3 | 4 => 4 | n => n, fun | n => n⟩
theorem Tryd.lays215 : Go.Proofs.Lays.n215 Tryd.prog Tryd.lays215_ren := {
  mixed := by kernel_rfl
  f215 := Tryd.func106.trans (congrArg some (by kernel_rfl))
  t3 := Tryd.underlying3
  a3 := Tryd.isAgg3
  z3 := Tryd.sizeOf3
  v3 := Tryd.zeroValue3
  t4 := Tryd.underlying4
  a4 := Tryd.isAgg4
  z4 := Tryd.sizeOf4
  v4 := Tryd.zeroValue4 }
open Go.RowKit in
/-- cmp.isNaN at int: 'x != x': false. (LAID: no walk: one application.) -/
theorem Tryd.cmp_isNaN_int (x : Int) (w : World) :
    Calls Tryd.prog 106 #[.int .i64 x] w fun e w' => e = .returned (.bool false) ∧ w' = w := Any.cmp_isNaN_int Tryd.lays215 x w
def Tryd.lays129_ren : Go.Shelf.Ren := ⟨fun | 129 => 108 | n => n, fun | 53 => 116 | 3 => 3 | 4 => 4 | 46 => 119 | 5 => 5 | 9 => 9 | n => n, fun | n => n⟩
theorem Tryd.lays129 : Go.Proofs.Lays.n129 Tryd.prog Tryd.lays129_ren := {
  mixed := by kernel_rfl
  f129 := Tryd.func108.trans (congrArg some (by kernel_rfl))
  t3 := Tryd.underlying3
  a3 := Tryd.isAgg3
  z3 := Tryd.sizeOf3
  v3 := Tryd.zeroValue3
  t4 := Tryd.underlying4
  a4 := Tryd.isAgg4
  z4 := Tryd.sizeOf4
  v4 := Tryd.zeroValue4
  t5 := Tryd.underlying5
  a5 := Tryd.isAgg5
  z5 := Tryd.sizeOf5
  v5 := Tryd.zeroValue5
  t9 := Tryd.underlying9
  a9 := Tryd.isAgg9
  z9 := Tryd.sizeOf9
  v9 := Tryd.zeroValue9
  t46 := Tryd.underlying119
  a46 := Tryd.isAgg119
  z46 := Tryd.sizeOf119
  v46 := Tryd.zeroValue119
  t53 := Tryd.underlying116
  a53 := Tryd.isAgg116
  z53 := Tryd.sizeOf116
  v53 := Tryd.zeroValue116 }
/-- bits.Len64: "Len64 returns the minimum number of bits required to represent x; the result is 0 for x == 0.": IT RETURNS 'Lib.bitLen x'; the world is as it was. ('h0', 'h1': x is a uint64.) (LAID: no walk: one application.) -/
theorem Tryd.bits_Len64 (x : Int) (w : World) (h0 : 0 ≤ x) (h1 : x ≤ 18446744073709551615) :
    Calls Tryd.prog 108 #[.int .u64 x] w fun e w' => e = .returned (.int .i64 (Lib.bitLen x.toNat)) ∧ w' = w := Any.bits_Len64 Tryd.lays129 x w h0 h1
def Tryd.lays317_ren : Go.Shelf.Ren := ⟨fun | 317 => 107 | n => n, fun | 3 => 3 | 46 => 119 | n => n, fun | n => n⟩
theorem Tryd.lays317 : Go.Proofs.Lays.n317 Tryd.prog Tryd.lays317_ren := {
  mixed := by kernel_rfl
  f317 := Tryd.func107.trans (congrArg some (by kernel_rfl))
  t3 := Tryd.underlying3
  a3 := Tryd.isAgg3
  z3 := Tryd.sizeOf3
  v3 := Tryd.zeroValue3
  t46 := Tryd.underlying119
  a46 := Tryd.isAgg119
  z46 := Tryd.sizeOf119
  v46 := Tryd.zeroValue119 }
open Go.Lib in
/-- internal/strconv.log10Pow2: "log10Pow2(x) returns ⌊log₁₀ 2**x⌋ = ⌊x * log₁₀ 2⌋.": '(x * 78913) >> 18', at an x up to 64 (a length in bits). The world is as it was. (LAID: no walk: one application.) -/
theorem Tryd.internal_strconv_log10Pow2 (x : Nat) (h : x ≤ 64) (w : World) :
    Calls Tryd.prog 107 #[.int .i64 x] w fun e w' => e = .returned (.int .i64 (Lib.l10 x)) ∧ w' = w := Any.internal_strconv_log10Pow2 Tryd.lays317 x h w
def Tryd.lays318_ren : Go.Shelf.Ren := ⟨fun | 318 => 109 | n => n, fun | 3 => 3 | 4 => 4 | n => n, fun | n => n⟩
theorem Tryd.lays318 : Go.Proofs.Lays.n318 Tryd.prog Tryd.lays318_ren := {
  mixed := by kernel_rfl
  f318 := Tryd.func109.trans (congrArg some (by kernel_rfl))
  t3 := Tryd.underlying3
  a3 := Tryd.isAgg3
  z3 := Tryd.sizeOf3
  v3 := Tryd.zeroValue3
  t4 := Tryd.underlying4
  a4 := Tryd.isAgg4
  z4 := Tryd.sizeOf4
  v4 := Tryd.zeroValue4 }
open Go.Lib in
/-- internal/strconv.bool2: "bool2 converts b to an integer: 1 for true, 0 for false." The world is as it was. (LAID: no walk: one application.) -/
theorem Tryd.internal_strconv_bool2_int (b : Bool) (w : World) :
    Calls Tryd.prog 109 #[.bool b] w fun e w' => e = .returned (.int .i64 (if b then 1 else 0)) ∧ w' = w := Any.internal_strconv_bool2_int Tryd.lays318 b w
def Tryd.lays283_ren : Go.Shelf.Ren := ⟨fun | 283 => 101 | n => n, fun | 3 => 3 | 9 => 9 | 4 => 4 | n => n, fun | n => n⟩
theorem Tryd.lays283 : Go.Proofs.Lays.n283 Tryd.prog Tryd.lays283_ren := {
  mixed := by kernel_rfl
  f283 := Tryd.func101.trans (congrArg some (by kernel_rfl))
  t3 := Tryd.underlying3
  a3 := Tryd.isAgg3
  z3 := Tryd.sizeOf3
  v3 := Tryd.zeroValue3
  t4 := Tryd.underlying4
  a4 := Tryd.isAgg4
  z4 := Tryd.sizeOf4
  v4 := Tryd.zeroValue4
  t9 := Tryd.underlying9
  a9 := Tryd.isAgg9
  z9 := Tryd.sizeOf9
  v9 := Tryd.zeroValue9 }
open Go.Lib in
/-- internal/strconv.small: "small returns the string for an i with 0 <= i < nSmalls.": i's decimal numeral. The world is as it was. (LAID: no walk: one application.) -/
theorem Tryd.internal_strconv_small (i : Nat) (h : i < 100) (w : World) :
    Calls Tryd.prog 101 #[.int .i64 i] w fun e w' => e = .returned (.string ⟨(Lib.decDigits i).toArray⟩) ∧ w' = w := Any.internal_strconv_small Tryd.lays283 i h w
def Tryd.laysM284_ren : Go.Shelf.Ren := ⟨fun | 284 => 102 | 129 => 108 | 317 => 107 | 318 => 109 | n => n, fun | 53 => 116 | 3 => 3 | 212 => 129 | 0 => 0 | 4 => 4 | 46 => 119 | 5 => 5 | 9 => 9 | n => n, fun | 17 => 0 | n => n⟩
theorem Tryd.laysM284 : Go.Proofs.LaysM.n284 Tryd.prog Tryd.laysM284_ren := {
  mixed := by kernel_rfl
  f129 := Tryd.func108.trans (congrArg some (by kernel_rfl))
  f284 := Tryd.func102.trans (congrArg some (by kernel_rfl))
  f317 := Tryd.func107.trans (congrArg some (by kernel_rfl))
  f318 := Tryd.func109.trans (congrArg some (by kernel_rfl))
  t0 := Tryd.underlying0
  a0 := Tryd.isAgg0
  z0 := Tryd.sizeOf0
  v0 := Tryd.zeroValue0
  t3 := Tryd.underlying3
  a3 := Tryd.isAgg3
  z3 := Tryd.sizeOf3
  v3 := Tryd.zeroValue3
  t4 := Tryd.underlying4
  a4 := Tryd.isAgg4
  z4 := Tryd.sizeOf4
  v4 := Tryd.zeroValue4
  t5 := Tryd.underlying5
  a5 := Tryd.isAgg5
  z5 := Tryd.sizeOf5
  v5 := Tryd.zeroValue5
  t9 := Tryd.underlying9
  a9 := Tryd.isAgg9
  z9 := Tryd.sizeOf9
  v9 := Tryd.zeroValue9
  t46 := Tryd.underlying119
  a46 := Tryd.isAgg119
  z46 := Tryd.sizeOf119
  v46 := Tryd.zeroValue119
  t53 := Tryd.underlying116
  a53 := Tryd.isAgg116
  z53 := Tryd.sizeOf116
  v53 := Tryd.zeroValue116
  t212 := Tryd.underlying129
  a212 := Tryd.isAgg129
  z212 := Tryd.sizeOf129
  v212 := Tryd.zeroValue129
  g17 := by kernel_rfl
  i0 := by kernel_rfl
  i3 := by kernel_rfl
  i4 := by kernel_rfl
  i5 := by kernel_rfl
  i9 := by kernel_rfl
  i46 := by kernel_rfl
  i53 := by kernel_rfl
  i212 := by kernel_rfl
  m17 := by kernel_rfl }
open Go.Lib in
/-- internal/strconv.numDigits, at a d that is not 0: THE NUMBER OF d's DECIMAL DIGITS. The world is as it was. (LAID: no walk: one application.) -/
theorem Tryd.internal_strconv_numDigits (u : Nat) (h1 : 1 ≤ u) (h2 : u < 18446744073709551616) (w : World) (htab : Lib.TabIs Tryd.prog w "internal/strconv.uint64pow10" .u64 Lib.pow10Tab) :
    Calls Tryd.prog 102 #[.int .u64 u] w fun e w' => e = .returned (.int .i64 (Lib.nDigits u)) ∧ w' = w := Any.internal_strconv_numDigits Tryd.laysM284 u h1 h2 w htab
def Tryd.lays285_ren : Go.Shelf.Ren := ⟨fun | 285 => 103 | n => n, fun | 37 => 109 | 53 => 116 | 3 => 3 | 4 => 4 | 51 => 130 | 9 => 9 | 5 => 5 | 0 => 0 | n => n, fun | n => n⟩
theorem Tryd.lays285 : Go.Proofs.Lays.n285 Tryd.prog Tryd.lays285_ren := {
  mixed := by kernel_rfl
  f285 := Tryd.func103.trans (congrArg some (by kernel_rfl))
  t0 := Tryd.underlying0
  a0 := Tryd.isAgg0
  z0 := Tryd.sizeOf0
  v0 := Tryd.zeroValue0
  t3 := Tryd.underlying3
  a3 := Tryd.isAgg3
  z3 := Tryd.sizeOf3
  v3 := Tryd.zeroValue3
  t4 := Tryd.underlying4
  a4 := Tryd.isAgg4
  z4 := Tryd.sizeOf4
  v4 := Tryd.zeroValue4
  t5 := Tryd.underlying5
  a5 := Tryd.isAgg5
  z5 := Tryd.sizeOf5
  v5 := Tryd.zeroValue5
  t9 := Tryd.underlying9
  a9 := Tryd.isAgg9
  z9 := Tryd.sizeOf9
  v9 := Tryd.zeroValue9
  t37 := Tryd.underlying109
  a37 := Tryd.isAgg109
  z37 := Tryd.sizeOf109
  v37 := Tryd.zeroValue109
  t51 := Tryd.underlying130
  a51 := Tryd.isAgg130
  z51 := Tryd.sizeOf130
  v51 := Tryd.zeroValue130
  t53 := Tryd.underlying116
  a53 := Tryd.isAgg116
  z53 := Tryd.sizeOf116
  v53 := Tryd.zeroValue116 }
open Go.RowKit Go.Sort Go.Lib in
/-- internal/strconv.formatBase10: "formatBase10 formats the decimal representation of u into a. The caller is responsible for ensuring that a is big enough to hold u. If a is too big, leading zeros will be filled in as needed.": THE ROW HOLDS u's DIGITS ('FmtInv .. 0 ..': every place t holds 'dg u (len - 1 - t)'); all else is as it was but for the count of draws. (LAID: no walk: one application.) -/
theorem Tryd.internal_strconv_formatBase10 (blk off cap : Nat) (u : Nat) (d : Array UInt8) (w : World) (hH : Holds (fun (b : UInt8) => Value.int .u8 (b.toNat : Int)) w blk off d) (hu : u < 10 ^ d.size) (hu64 : u < 18446744073709551616) (hsz : d.size < 4611686018427387904) :
    Calls Tryd.prog 103 #[.slice (some ⟨blk, off, none⟩) d.size cap, .int .u64 u] w fun e w' =>
      e = .returned (.tuple #[]) ∧ ∃ (n v' : Nat) (dk : Array UInt8), w' = (putRow (fun (b : UInt8) => Value.int .u8 (b.toNat : Int)) w blk off dk).drewN n ∧ FmtInv d.size u 0 v' dk := Any.internal_strconv_formatBase10 Tryd.lays285 blk off cap u d w hH hu hu64 hsz
def Tryd.laysM288_ren : Go.Shelf.Ren := ⟨fun | 288 => 96 | 283 => 101 | 284 => 102 | 285 => 103 | 286 => 104 | 129 => 108 | 317 => 107 | 318 => 109 | 319 => 110 | 320 => 111 | 337 => 113 | 338 => 114 | n => n, fun | 37 => 109 | 53 => 116 | 3 => 3 | 4 => 4 | 9 => 9 | 171 => 122 | 0 => 0 | 173 => 125 | 212 => 129 | 51 => 130 | 5 => 5 | 20 => 20 | 213 => 131 | 46 => 119 | 232 => 135 | 233 => 136 | n => n, fun | 17 => 0 | 18 => 1 | 19 => 2 | n => n⟩
theorem Tryd.laysM288 : Go.Proofs.LaysM.n288 Tryd.prog Tryd.laysM288_ren := {
  mixed := by kernel_rfl
  f129 := Tryd.func108.trans (congrArg some (by kernel_rfl))
  f283 := Tryd.func101.trans (congrArg some (by kernel_rfl))
  f284 := Tryd.func102.trans (congrArg some (by kernel_rfl))
  f285 := Tryd.func103.trans (congrArg some (by kernel_rfl))
  f286 := Tryd.func104.trans (congrArg some (by kernel_rfl))
  f288 := Tryd.func96.trans (congrArg some (by kernel_rfl))
  f317 := Tryd.func107.trans (congrArg some (by kernel_rfl))
  f318 := Tryd.func109.trans (congrArg some (by kernel_rfl))
  f319 := Tryd.func110.trans (congrArg some (by kernel_rfl))
  f320 := Tryd.func111.trans (congrArg some (by kernel_rfl))
  f337 := Tryd.func113.trans (congrArg some (by kernel_rfl))
  f338 := Tryd.func114.trans (congrArg some (by kernel_rfl))
  t0 := Tryd.underlying0
  a0 := Tryd.isAgg0
  z0 := Tryd.sizeOf0
  v0 := Tryd.zeroValue0
  t3 := Tryd.underlying3
  a3 := Tryd.isAgg3
  z3 := Tryd.sizeOf3
  v3 := Tryd.zeroValue3
  t4 := Tryd.underlying4
  a4 := Tryd.isAgg4
  z4 := Tryd.sizeOf4
  v4 := Tryd.zeroValue4
  t5 := Tryd.underlying5
  a5 := Tryd.isAgg5
  z5 := Tryd.sizeOf5
  v5 := Tryd.zeroValue5
  t9 := Tryd.underlying9
  a9 := Tryd.isAgg9
  z9 := Tryd.sizeOf9
  v9 := Tryd.zeroValue9
  t20 := Tryd.underlying20
  a20 := Tryd.isAgg20
  z20 := Tryd.sizeOf20
  v20 := Tryd.zeroValue20
  t37 := Tryd.underlying109
  a37 := Tryd.isAgg109
  z37 := Tryd.sizeOf109
  v37 := Tryd.zeroValue109
  t46 := Tryd.underlying119
  a46 := Tryd.isAgg119
  z46 := Tryd.sizeOf119
  v46 := Tryd.zeroValue119
  t51 := Tryd.underlying130
  a51 := Tryd.isAgg130
  z51 := Tryd.sizeOf130
  v51 := Tryd.zeroValue130
  t53 := Tryd.underlying116
  a53 := Tryd.isAgg116
  z53 := Tryd.sizeOf116
  v53 := Tryd.zeroValue116
  t171 := Tryd.underlying122
  a171 := Tryd.isAgg122
  z171 := Tryd.sizeOf122
  v171 := Tryd.zeroValue122
  t173 := Tryd.underlying125
  a173 := Tryd.isAgg125
  z173 := Tryd.sizeOf125
  v173 := Tryd.zeroValue125
  t212 := Tryd.underlying129
  a212 := Tryd.isAgg129
  z212 := Tryd.sizeOf129
  v212 := Tryd.zeroValue129
  t213 := Tryd.underlying131
  a213 := Tryd.isAgg131
  z213 := Tryd.sizeOf131
  t232 := Tryd.underlying135
  a232 := Tryd.isAgg135
  z232 := Tryd.sizeOf135
  v232 := Tryd.zeroValue135
  t233 := Tryd.underlying136
  a233 := Tryd.isAgg136
  z233 := Tryd.sizeOf136
  v233 := Tryd.zeroValue136
  g17 := by kernel_rfl
  g18 := by kernel_rfl
  g19 := by kernel_rfl
  i0 := by kernel_rfl
  i3 := by kernel_rfl
  i4 := by kernel_rfl
  i5 := by kernel_rfl
  i9 := by kernel_rfl
  i20 := by kernel_rfl
  i37 := by kernel_rfl
  i46 := by kernel_rfl
  i51 := by kernel_rfl
  i53 := by kernel_rfl
  i171 := by kernel_rfl
  i173 := by kernel_rfl
  i212 := by kernel_rfl
  i232 := by kernel_rfl
  i233 := by kernel_rfl
  m17 := by kernel_rfl
  m18 := by kernel_rfl
  m19 := by kernel_rfl }
open Go.RowKit Go.Sort Go.Lib in
/-- internal/strconv.AppendUint(dst, i, 10), i BELOW 100: WHAT COMES BACK OWNS dst's CELLS AND, BEHIND THEM, i's DECIMAL NUMERAL. No table is read. Below the call's own blocks nothing has turned. (LAID: no walk: one application.) -/
theorem Tryd.internal_strconv_AppendUint_10_small (B n u : Nat) (hu : u < 100) (sv : Value) (xs : List Value) (w : World) (hown : w.ownsRow B 5 1 sv n xs) (hBw : B ≤ w.heap.size) (hlim : n + 20 ≤ 140737488355328) :
    Calls Tryd.prog 96 #[sv, .int .u64 u, .int .i64 10] w fun e w' => ∃ v', e = .returned v' ∧ w'.ownsRow B 5 1 v' (n + (Lib.decDigits u).length) (xs ++ Lib.byteCells (Lib.decDigits u)) ∧ Below B w w' ∧ Lib.OthersKept 5 none w w' := Any.internal_strconv_AppendUint_10_small Tryd.laysM288 B n u hu sv xs w hown hBw hlim
open Go.RowKit Go.Sort Go.Lib in
/-- internal/strconv.AppendUint(dst, i, 10), i FROM 100 ON: likewise; the digits are laid in an array of the call's own and appended. (LAID: no walk: one application.) -/
theorem Tryd.internal_strconv_AppendUint_10_big (B n u : Nat) (hu : 100 ≤ u) (hu64 : u < 18446744073709551616) (sv : Value) (xs : List Value) (w : World) (hown : w.ownsRow B 5 1 sv n xs) (hBw : B ≤ w.heap.size) (hlim : n + 20 ≤ 140737488355328) (htab : Lib.TabIs Tryd.prog w "internal/strconv.uint64pow10" .u64 Lib.pow10Tab) :
    Calls Tryd.prog 96 #[sv, .int .u64 u, .int .i64 10] w fun e w' => ∃ v', e = .returned v' ∧ w'.ownsRow B 5 1 v' (n + (Lib.decDigits u).length) (xs ++ Lib.byteCells (Lib.decDigits u)) ∧ Below B w w' ∧ Lib.OthersKept 5 none w w' := Any.internal_strconv_AppendUint_10_big Tryd.laysM288 B n u hu hu64 sv xs w hown hBw hlim htab
open Go.RowKit Go.Sort Go.Lib in
/-- internal/strconv.AppendUint(dst, i, 10): the two contracts as one. NO WALK. (LAID: no walk: one application.) -/
theorem Tryd.internal_strconv_AppendUint_10 (B n u : Nat) (hu64 : u < 18446744073709551616) (sv : Value) (xs : List Value) (w : World) (hown : w.ownsRow B 5 1 sv n xs) (hBw : B ≤ w.heap.size) (hlim : n + 20 ≤ 140737488355328) (htab : Lib.TabIs Tryd.prog w "internal/strconv.uint64pow10" .u64 Lib.pow10Tab) :
    Calls Tryd.prog 96 #[sv, .int .u64 u, .int .i64 10] w fun e w' => ∃ v', e = .returned v' ∧ w'.ownsRow B 5 1 v' (n + (Lib.decDigits u).length) (xs ++ Lib.byteCells (Lib.decDigits u)) ∧ Below B w w' ∧ Lib.OthersKept 5 none w w' := Any.internal_strconv_AppendUint_10 Tryd.laysM288 B n u hu64 sv xs w hown hBw hlim htab
def Tryd.laysM249_ren : Go.Shelf.Ren := ⟨fun | 249 => 91 | 288 => 96 | 283 => 101 | 284 => 102 | 285 => 103 | 286 => 104 | 129 => 108 | 317 => 107 | 318 => 109 | 319 => 110 | 320 => 111 | 337 => 113 | 338 => 114 | n => n, fun | 37 => 109 | 2 => 2 | 3 => 3 | 53 => 116 | 4 => 4 | 9 => 9 | 171 => 122 | 0 => 0 | 173 => 125 | 212 => 129 | 51 => 130 | 5 => 5 | 20 => 20 | 213 => 131 | 46 => 119 | 232 => 135 | 233 => 136 | n => n, fun | 17 => 0 | 18 => 1 | 19 => 2 | n => n⟩
theorem Tryd.laysM249 : Go.Proofs.LaysM.n249 Tryd.prog Tryd.laysM249_ren := {
  mixed := by kernel_rfl
  f129 := Tryd.func108.trans (congrArg some (by kernel_rfl))
  f249 := Tryd.func91.trans (congrArg some (by kernel_rfl))
  f283 := Tryd.func101.trans (congrArg some (by kernel_rfl))
  f284 := Tryd.func102.trans (congrArg some (by kernel_rfl))
  f285 := Tryd.func103.trans (congrArg some (by kernel_rfl))
  f286 := Tryd.func104.trans (congrArg some (by kernel_rfl))
  f288 := Tryd.func96.trans (congrArg some (by kernel_rfl))
  f317 := Tryd.func107.trans (congrArg some (by kernel_rfl))
  f318 := Tryd.func109.trans (congrArg some (by kernel_rfl))
  f319 := Tryd.func110.trans (congrArg some (by kernel_rfl))
  f320 := Tryd.func111.trans (congrArg some (by kernel_rfl))
  f337 := Tryd.func113.trans (congrArg some (by kernel_rfl))
  f338 := Tryd.func114.trans (congrArg some (by kernel_rfl))
  t0 := Tryd.underlying0
  a0 := Tryd.isAgg0
  z0 := Tryd.sizeOf0
  v0 := Tryd.zeroValue0
  t2 := Tryd.underlying2
  a2 := Tryd.isAgg2
  z2 := Tryd.sizeOf2
  v2 := Tryd.zeroValue2
  t3 := Tryd.underlying3
  a3 := Tryd.isAgg3
  z3 := Tryd.sizeOf3
  v3 := Tryd.zeroValue3
  t4 := Tryd.underlying4
  a4 := Tryd.isAgg4
  z4 := Tryd.sizeOf4
  v4 := Tryd.zeroValue4
  t5 := Tryd.underlying5
  a5 := Tryd.isAgg5
  z5 := Tryd.sizeOf5
  v5 := Tryd.zeroValue5
  t9 := Tryd.underlying9
  a9 := Tryd.isAgg9
  z9 := Tryd.sizeOf9
  v9 := Tryd.zeroValue9
  t20 := Tryd.underlying20
  a20 := Tryd.isAgg20
  z20 := Tryd.sizeOf20
  v20 := Tryd.zeroValue20
  t37 := Tryd.underlying109
  a37 := Tryd.isAgg109
  z37 := Tryd.sizeOf109
  v37 := Tryd.zeroValue109
  t46 := Tryd.underlying119
  a46 := Tryd.isAgg119
  z46 := Tryd.sizeOf119
  v46 := Tryd.zeroValue119
  t51 := Tryd.underlying130
  a51 := Tryd.isAgg130
  z51 := Tryd.sizeOf130
  v51 := Tryd.zeroValue130
  t53 := Tryd.underlying116
  a53 := Tryd.isAgg116
  z53 := Tryd.sizeOf116
  v53 := Tryd.zeroValue116
  t171 := Tryd.underlying122
  a171 := Tryd.isAgg122
  z171 := Tryd.sizeOf122
  v171 := Tryd.zeroValue122
  t173 := Tryd.underlying125
  a173 := Tryd.isAgg125
  z173 := Tryd.sizeOf125
  v173 := Tryd.zeroValue125
  t212 := Tryd.underlying129
  a212 := Tryd.isAgg129
  z212 := Tryd.sizeOf129
  v212 := Tryd.zeroValue129
  t213 := Tryd.underlying131
  a213 := Tryd.isAgg131
  z213 := Tryd.sizeOf131
  t232 := Tryd.underlying135
  a232 := Tryd.isAgg135
  z232 := Tryd.sizeOf135
  v232 := Tryd.zeroValue135
  t233 := Tryd.underlying136
  a233 := Tryd.isAgg136
  z233 := Tryd.sizeOf136
  v233 := Tryd.zeroValue136
  g17 := by kernel_rfl
  g18 := by kernel_rfl
  g19 := by kernel_rfl
  i0 := by kernel_rfl
  i2 := by kernel_rfl
  i3 := by kernel_rfl
  i4 := by kernel_rfl
  i5 := by kernel_rfl
  i9 := by kernel_rfl
  i20 := by kernel_rfl
  i37 := by kernel_rfl
  i46 := by kernel_rfl
  i51 := by kernel_rfl
  i53 := by kernel_rfl
  i171 := by kernel_rfl
  i173 := by kernel_rfl
  i212 := by kernel_rfl
  i232 := by kernel_rfl
  i233 := by kernel_rfl
  m17 := by kernel_rfl
  m18 := by kernel_rfl
  m19 := by kernel_rfl }
open Go.RowKit Go.Sort Go.Lib in
/-- internal/strconv.AppendInt: "AppendInt appends the string form of the integer i, as generated by FormatInt, to dst and returns the extended buffer.": AT BASE 10: WHAT COMES BACK OWNS dst's CELLS AND, BEHIND THEM, i's DECIMAL NUMERAL ('Lib.itoa i': at most 20 bytes), for every int64. Below the call's own blocks nothing has turned. (LAID: no walk: one application.) -/
theorem Tryd.internal_strconv_AppendInt_10 (B n : Nat) (i : Int) (h0 : -9223372036854775808 ≤ i) (h1 : i ≤ 9223372036854775807) (sv : Value) (xs : List Value) (w : World) (hown : w.ownsRow B 5 1 sv n xs) (hBw : B ≤ w.heap.size) (hlim : n + 21 ≤ 140737488355328) (htab : Lib.TabBelow Tryd.prog B w "internal/strconv.uint64pow10" .u64 Lib.pow10Tab) :
    Calls Tryd.prog 91 #[sv, .int .i64 i, .int .i64 10] w fun e w' => ∃ v', e = .returned v' ∧ w'.ownsRow B 5 1 v' (n + (Lib.itoa i).length) (xs ++ Lib.byteCells (Lib.itoa i)) ∧ Below B w w' ∧ Lib.OthersKept 5 none w w' := Any.internal_strconv_AppendInt_10 Tryd.laysM249 B n i h0 h1 sv xs w hown hBw hlim htab
def Tryd.laysM176_ren : Go.Shelf.Ren := ⟨fun | 176 => 76 | 249 => 91 | 288 => 96 | 283 => 101 | 284 => 102 | 285 => 103 | 286 => 104 | 129 => 108 | 317 => 107 | 318 => 109 | 319 => 110 | 320 => 111 | 337 => 113 | 338 => 114 | n => n, fun | 37 => 109 | 2 => 2 | 3 => 3 | 53 => 116 | 4 => 4 | 9 => 9 | 171 => 122 | 0 => 0 | 173 => 125 | 212 => 129 | 51 => 130 | 5 => 5 | 20 => 20 | 213 => 131 | 46 => 119 | 232 => 135 | 233 => 136 | n => n, fun | 17 => 0 | 18 => 1 | 19 => 2 | n => n⟩
theorem Tryd.laysM176 : Go.Proofs.LaysM.n176 Tryd.prog Tryd.laysM176_ren := {
  mixed := by kernel_rfl
  f129 := Tryd.func108.trans (congrArg some (by kernel_rfl))
  f176 := Tryd.func76.trans (congrArg some (by kernel_rfl))
  f249 := Tryd.func91.trans (congrArg some (by kernel_rfl))
  f283 := Tryd.func101.trans (congrArg some (by kernel_rfl))
  f284 := Tryd.func102.trans (congrArg some (by kernel_rfl))
  f285 := Tryd.func103.trans (congrArg some (by kernel_rfl))
  f286 := Tryd.func104.trans (congrArg some (by kernel_rfl))
  f288 := Tryd.func96.trans (congrArg some (by kernel_rfl))
  f317 := Tryd.func107.trans (congrArg some (by kernel_rfl))
  f318 := Tryd.func109.trans (congrArg some (by kernel_rfl))
  f319 := Tryd.func110.trans (congrArg some (by kernel_rfl))
  f320 := Tryd.func111.trans (congrArg some (by kernel_rfl))
  f337 := Tryd.func113.trans (congrArg some (by kernel_rfl))
  f338 := Tryd.func114.trans (congrArg some (by kernel_rfl))
  t0 := Tryd.underlying0
  a0 := Tryd.isAgg0
  z0 := Tryd.sizeOf0
  v0 := Tryd.zeroValue0
  t2 := Tryd.underlying2
  a2 := Tryd.isAgg2
  z2 := Tryd.sizeOf2
  v2 := Tryd.zeroValue2
  t3 := Tryd.underlying3
  a3 := Tryd.isAgg3
  z3 := Tryd.sizeOf3
  v3 := Tryd.zeroValue3
  t4 := Tryd.underlying4
  a4 := Tryd.isAgg4
  z4 := Tryd.sizeOf4
  v4 := Tryd.zeroValue4
  t5 := Tryd.underlying5
  a5 := Tryd.isAgg5
  z5 := Tryd.sizeOf5
  v5 := Tryd.zeroValue5
  t9 := Tryd.underlying9
  a9 := Tryd.isAgg9
  z9 := Tryd.sizeOf9
  v9 := Tryd.zeroValue9
  t20 := Tryd.underlying20
  a20 := Tryd.isAgg20
  z20 := Tryd.sizeOf20
  v20 := Tryd.zeroValue20
  t37 := Tryd.underlying109
  a37 := Tryd.isAgg109
  z37 := Tryd.sizeOf109
  v37 := Tryd.zeroValue109
  t46 := Tryd.underlying119
  a46 := Tryd.isAgg119
  z46 := Tryd.sizeOf119
  v46 := Tryd.zeroValue119
  t51 := Tryd.underlying130
  a51 := Tryd.isAgg130
  z51 := Tryd.sizeOf130
  v51 := Tryd.zeroValue130
  t53 := Tryd.underlying116
  a53 := Tryd.isAgg116
  z53 := Tryd.sizeOf116
  v53 := Tryd.zeroValue116
  t171 := Tryd.underlying122
  a171 := Tryd.isAgg122
  z171 := Tryd.sizeOf122
  v171 := Tryd.zeroValue122
  t173 := Tryd.underlying125
  a173 := Tryd.isAgg125
  z173 := Tryd.sizeOf125
  v173 := Tryd.zeroValue125
  t212 := Tryd.underlying129
  a212 := Tryd.isAgg129
  z212 := Tryd.sizeOf129
  v212 := Tryd.zeroValue129
  t213 := Tryd.underlying131
  a213 := Tryd.isAgg131
  z213 := Tryd.sizeOf131
  t232 := Tryd.underlying135
  a232 := Tryd.isAgg135
  z232 := Tryd.sizeOf135
  v232 := Tryd.zeroValue135
  t233 := Tryd.underlying136
  a233 := Tryd.isAgg136
  z233 := Tryd.sizeOf136
  v233 := Tryd.zeroValue136
  g17 := by kernel_rfl
  g18 := by kernel_rfl
  g19 := by kernel_rfl
  i0 := by kernel_rfl
  i2 := by kernel_rfl
  i3 := by kernel_rfl
  i4 := by kernel_rfl
  i5 := by kernel_rfl
  i9 := by kernel_rfl
  i20 := by kernel_rfl
  i37 := by kernel_rfl
  i46 := by kernel_rfl
  i51 := by kernel_rfl
  i53 := by kernel_rfl
  i171 := by kernel_rfl
  i173 := by kernel_rfl
  i212 := by kernel_rfl
  i232 := by kernel_rfl
  i233 := by kernel_rfl
  m17 := by kernel_rfl
  m18 := by kernel_rfl
  m19 := by kernel_rfl }
open Go.RowKit Go.Sort Go.Lib in
/-- strconv.AppendInt: "AppendInt appends the string form of the integer i, as generated by FormatInt, to dst and returns the extended buffer.": AT BASE 10: WHAT COMES BACK OWNS dst's CELLS AND, BEHIND THEM, i's DECIMAL NUMERAL ('Lib.itoa i': at most 20 bytes), for every int64. Below the call's own blocks nothing has turned. (LAID: no walk: one application.) -/
theorem Tryd.strconv_AppendInt_10 (B n : Nat) (i : Int) (h0 : -9223372036854775808 ≤ i) (h1 : i ≤ 9223372036854775807) (sv : Value) (xs : List Value) (w : World) (hown : w.ownsRow B 5 1 sv n xs) (hBw : B ≤ w.heap.size) (hlim : n + 21 ≤ 140737488355328) (htab : Lib.TabBelow Tryd.prog B w "internal/strconv.uint64pow10" .u64 Lib.pow10Tab) :
    Calls Tryd.prog 76 #[sv, .int .i64 i, .int .i64 10] w fun e w' => ∃ v', e = .returned v' ∧ w'.ownsRow B 5 1 v' (n + (Lib.itoa i).length) (xs ++ Lib.byteCells (Lib.itoa i)) ∧ Below B w w' ∧ Lib.OthersKept 5 none w w' := Any.strconv_AppendInt_10 Tryd.laysM176 B n i h0 h1 sv xs w hown hBw hlim htab
def Tryd.lays108_ren : Go.Shelf.Ren := ⟨fun | 108 => 58 | n => n, fun | 28 => 27 | 3 => 3 | 0 => 0 | 4 => 4 | n => n, fun | n => n⟩
theorem Tryd.lays108 : Go.Proofs.Lays.n108 Tryd.prog Tryd.lays108_ren := {
  mixed := by kernel_rfl
  f108 := Tryd.func58.trans (congrArg some (by kernel_rfl))
  t0 := Tryd.underlying0
  a0 := Tryd.isAgg0
  z0 := Tryd.sizeOf0
  v0 := Tryd.zeroValue0
  t3 := Tryd.underlying3
  a3 := Tryd.isAgg3
  z3 := Tryd.sizeOf3
  v3 := Tryd.zeroValue3
  t4 := Tryd.underlying4
  a4 := Tryd.isAgg4
  z4 := Tryd.sizeOf4
  v4 := Tryd.zeroValue4
  t28 := Tryd.underlying27
  a28 := Tryd.isAgg27
  z28 := Tryd.sizeOf27
  v28 := Tryd.zeroValue27 }
open Go.Lib in
/-- slices.Index at []int: "Index returns the index of the first occurrence of v in s, or -1 if not present.": IT RETURNS 'Lib.idxOf (the elements) v'; the world is as it was. 'zs': what the cells behind the slice's address hold (its spare capacity too, if you have it); 'zs.take n': its elements. (LAID: no walk: one application.) -/
theorem Tryd.slices_Index_int (b off n c : Nat) (zs : List Int) (x : Int) (w : World) (hz : n ≤ zs.length) (hbig : n ≤ 9223372036854775807) (hc : ∀ j, j < zs.length → w.cell? ⟨b, off + j, none⟩ = some (.int .i64 (zs.getD j 0))) :
    Calls Tryd.prog 58 #[.slice (some ⟨b, off, none⟩) n c, .int .i64 x] w fun e w' => e = .returned (.int .i64 (Lib.idxOf (zs.take n) x)) ∧ w' = w := Any.slices_Index_int Tryd.lays108 b off n c zs x w hz hbig hc
open Go.Lib in
/-- The same at a slice of length 0, a nil one too: no cell is known, none is asked for. (LAID: no walk: one application.) -/
theorem Tryd.slices_Index_int_empty (a : Option Addr) (c : Nat) (x : Int) (w : World) :
    Calls Tryd.prog 58 #[.slice a 0 c, .int .i64 x] w fun e w' => e = .returned (.int .i64 (Lib.idxOf [] x)) ∧ w' = w := Any.slices_Index_int_empty Tryd.lays108 a c x w
def Tryd.lays107_ren : Go.Shelf.Ren := ⟨fun | 107 => 27 | 108 => 58 | n => n, fun | 28 => 27 | 3 => 3 | 4 => 4 | 0 => 0 | n => n, fun | n => n⟩
theorem Tryd.lays107 : Go.Proofs.Lays.n107 Tryd.prog Tryd.lays107_ren := {
  mixed := by kernel_rfl
  f107 := Tryd.func27.trans (congrArg some (by kernel_rfl))
  f108 := Tryd.func58.trans (congrArg some (by kernel_rfl))
  t0 := Tryd.underlying0
  a0 := Tryd.isAgg0
  z0 := Tryd.sizeOf0
  v0 := Tryd.zeroValue0
  t3 := Tryd.underlying3
  a3 := Tryd.isAgg3
  z3 := Tryd.sizeOf3
  v3 := Tryd.zeroValue3
  t4 := Tryd.underlying4
  a4 := Tryd.isAgg4
  z4 := Tryd.sizeOf4
  v4 := Tryd.zeroValue4
  t28 := Tryd.underlying27
  a28 := Tryd.isAgg27
  z28 := Tryd.sizeOf27
  v28 := Tryd.zeroValue27 }
open Go.Lib in
/-- slices.Contains at []int: "Contains reports whether v is present in s.": IT RETURNS 'elements.contains v'; the world is as it was. ITS CALLEE slices.Index IS MET BY ITS OWN CONTRACT OFF THE SHELF (lay that first): no loop is walked here. (LAID: no walk: one application.) -/
theorem Tryd.slices_Contains_int (b off n c : Nat) (zs : List Int) (x : Int) (w : World) (hz : n ≤ zs.length) (hbig : n ≤ 9223372036854775807) (hc : ∀ j, j < zs.length → w.cell? ⟨b, off + j, none⟩ = some (.int .i64 (zs.getD j 0))) :
    Calls Tryd.prog 27 #[.slice (some ⟨b, off, none⟩) n c, .int .i64 x] w fun e w' => e = .returned (.bool ((zs.take n).contains x)) ∧ w' = w := Any.slices_Contains_int Tryd.lays107 b off n c zs x w hz hbig hc
open Go.Lib in
/-- The same at a slice of length 0, a nil one too. (LAID: no walk: one application.) -/
theorem Tryd.slices_Contains_int_empty (a : Option Addr) (c : Nat) (x : Int) (w : World) :
    Calls Tryd.prog 27 #[.slice a 0 c, .int .i64 x] w fun e w' => e = .returned (.bool false) ∧ w' = w := Any.slices_Contains_int_empty Tryd.lays107 a c x w
def Tryd.lays112_ren : Go.Shelf.Ren := ⟨fun | 112 => 112 | n => n, fun | 28 => 27 | 3 => 3 | 4 => 4 | 0 => 0 | n => n, fun | n => n⟩
theorem Tryd.lays112 : Go.Proofs.Lays.n112 Tryd.prog Tryd.lays112_ren := {
  mixed := by kernel_rfl
  f112 := Tryd.func112.trans (congrArg some (by kernel_rfl))
  t0 := Tryd.underlying0
  a0 := Tryd.isAgg0
  z0 := Tryd.sizeOf0
  v0 := Tryd.zeroValue0
  t3 := Tryd.underlying3
  a3 := Tryd.isAgg3
  z3 := Tryd.sizeOf3
  v3 := Tryd.zeroValue3
  t4 := Tryd.underlying4
  a4 := Tryd.isAgg4
  z4 := Tryd.sizeOf4
  v4 := Tryd.zeroValue4
  t28 := Tryd.underlying27
  a28 := Tryd.isAgg27
  z28 := Tryd.sizeOf27
  v28 := Tryd.zeroValue27 }
open Go.RowKit Go.Lib Go.Sort in
/-- slices.Reverse at []int, over an array: Go's loop from the two ends inward is walked; it makes 'Sort.reverseLoop 0 (len - 1)', which is 'Array.reverse' (Derived/Lib/SlicesMore.lean). (LAID: no walk: one application.) -/
theorem Tryd.slices_Reverse_int_arr (blk off cap : Nat) (d : Array Int) (w : World) (hH : Holds encI w blk off d) (hsz : d.size ≤ 9223372036854775807) :
    Calls Tryd.prog 112 #[.slice (some ⟨blk, off, none⟩) d.size cap] w fun e w' => e = .returned (.tuple #[]) ∧ ∃ n, w' = putRow encI (Sort.ahead w n) blk off d.reverse := Any.slices_Reverse_int_arr Tryd.lays112 blk off cap d w hH hsz
open Go.RowKit Go.Lib Go.Sort in
/-- slices.Reverse at []int: "Reverse reverses the elements of the slice in place.": THE SLICE's CELLS HOLD 'zs.reverse' BEHIND THE CALL; all else is as it was, but for the count of draws (the exchange 's[i], s[j] = s[j], s[i]' draws its order, once a round). IN THE WORDS OF slices.Sort's CONTRACT: 'Holds': the cells hold zs and none is frozen; 'putRow': the world with those cells holding another array. A slice of length 0 that is not nil is among them ('zs = []'); nil: '.._nil'. (LAID: no walk: one application.) -/
theorem Tryd.slices_Reverse_int (blk off cap : Nat) (zs : List Int) (w : World) (hH : Holds (Value.int .i64) w blk off zs.toArray) (hsz : zs.length ≤ 9223372036854775807) :
    Calls Tryd.prog 112 #[.slice (some ⟨blk, off, none⟩) zs.length cap] w fun e w' => e = .returned (.tuple #[]) ∧ ∃ n, w' = putRow (Value.int .i64) (Sort.ahead w n) blk off zs.reverse.toArray := Any.slices_Reverse_int Tryd.lays112 blk off cap zs w hH hsz
open Go.RowKit Go.Lib Go.Sort in
/-- The same at a slice of length 0, a nil one too: nothing is read, nothing written, nothing drawn. (LAID: no walk: one application.) -/
theorem Tryd.slices_Reverse_int_empty (a : Option Addr) (cap : Nat) (w : World) :
    Calls Tryd.prog 112 #[.slice a 0 cap] w fun e w' => e = .returned (.tuple #[]) ∧ w' = w := Any.slices_Reverse_int_empty Tryd.lays112 a cap w
def Tryd.laysNm215_ren : Go.Shelf.Ren := ⟨fun | 15 => 50 | n => n, fun | 22 => 27 | 3 => 3 | 4 => 4 | n => n, fun | n => n⟩
theorem Tryd.laysNm215 : Go.Proofs.Lays2.n15 Tryd.prog Tryd.laysNm215_ren := {
  mixed := by kernel_rfl
  f15 := Tryd.func50.trans (congrArg some (by kernel_rfl))
  t3 := Tryd.underlying3
  a3 := Tryd.isAgg3
  z3 := Tryd.sizeOf3
  v3 := Tryd.zeroValue3
  t4 := Tryd.underlying4
  a4 := Tryd.isAgg4
  z4 := Tryd.sizeOf4
  v4 := Tryd.zeroValue4
  t22 := Tryd.underlying27
  a22 := Tryd.isAgg27
  z22 := Tryd.sizeOf27
  v22 := Tryd.zeroValue27
  i3 := by kernel_rfl }
open Go.RowKit Go.Lib in
/-- slices.Clone at []int: "Clone returns a copy of the slice. The elements are copied using assignment, so this is a shallow clone. The result may have additional unused capacity. The result preserves the nilness of s.": OF A SLICE THAT IS NOT nil IT RETURNS A SLICE THAT IS NOT nil, OF THE SAME ELEMENTS, IN MEMORY OF THE CALL's OWN: in the how-to's words (6f): 'w'.ownsRow B e 1 v' n cells': v' begins at the head of a row among the blocks from B on (B: the heap's size at the call), not frozen, whose first cells are the elements · 'Below B w w'': below B all is as it was. The capacity is whatever the run-time gives. 'zs': what the cells behind the slice's address hold; 'zs.take n': its elements. (LAID: no walk: one application.) -/
theorem Tryd.slices_Clone_int (b off n c : Nat) (zs : List Int) (w : World) (hz : n ≤ zs.length) (hbig : n * 8 ≤ 140737488355328) (hc : ∀ j, j < zs.length → w.cell? ⟨b, off + j, none⟩ = some (.int .i64 (zs.getD j 0))) :
    Calls Tryd.prog 50 #[.slice (some ⟨b, off, none⟩) n c] w fun e w' => ∃ v', e = .returned v' ∧ w'.ownsRow w.heap.size 3 1 v' n ((zs.take n).map (Value.int .i64)) ∧ v' ≠ .slice none 0 0 ∧ Below w.heap.size w w' := Any.slices_Clone_int Tryd.laysNm215 b off n c zs w hz hbig hc
open Go.RowKit Go.Lib in
/-- The same at nil: nil comes back; the world is as it was. (LAID: no walk: one application.) -/
theorem Tryd.slices_Clone_int_nil (n c : Nat) (w : World) :
    Calls Tryd.prog 50 #[.slice none n c] w fun e w' => e = .returned (.slice none 0 0) ∧ w' = w := Any.slices_Clone_int_nil Tryd.laysNm215 n c w
open Go.RowKit Go.Lib in
/-- The same at a slice of length 0 that is not nil, WHATEVER ITS ADDRESS (no cell is asked for): a slice that is not nil and owns nothing comes back. (LAID: no walk: one application.) -/
theorem Tryd.slices_Clone_int_zero (a : Addr) (c : Nat) (w : World) :
    Calls Tryd.prog 50 #[.slice (some a) 0 c] w fun e w' => ∃ v', e = .returned v' ∧ w'.ownsRow w.heap.size 3 1 v' 0 [] ∧ v' ≠ .slice none 0 0 ∧ Below w.heap.size w w' := Any.slices_Clone_int_zero Tryd.laysNm215 a c w
def Tryd.laysNm237_ren : Go.Shelf.Ren := ⟨fun | 37 => 106 | n => n, fun | 3 => 3 | 4 => 4 | n => n, fun | n => n⟩
theorem Tryd.laysNm237 : Go.Proofs.Lays2.n37 Tryd.prog Tryd.laysNm237_ren := {
  mixed := by kernel_rfl
  f37 := Tryd.func106.trans (congrArg some (by kernel_rfl))
  t3 := Tryd.underlying3
  a3 := Tryd.isAgg3
  z3 := Tryd.sizeOf3
  v3 := Tryd.zeroValue3
  t4 := Tryd.underlying4
  a4 := Tryd.isAgg4
  z4 := Tryd.sizeOf4
  v4 := Tryd.zeroValue4 }
open Go.RowKit Go.Lib in
/-- cmp.isNaN[int]: 'x != x': false. (LAID: no walk: one application.) -/
theorem Tryd.cmp_isNaN_int2 (x : Int) (w : World) :
    Calls Tryd.prog 106 #[.int .i64 x] w fun e w' => e = .returned (.bool false) ∧ w' = w := Any.cmp_isNaN_int2 Tryd.laysNm237 x w
def Tryd.laysNm232_ren : Go.Shelf.Ren := ⟨fun | 32 => 100 | n => n, fun | 3 => 3 | 4 => 4 | n => n, fun | n => n⟩
theorem Tryd.laysNm232 : Go.Proofs.Lays2.n32 Tryd.prog Tryd.laysNm232_ren := {
  mixed := by kernel_rfl
  f32 := Tryd.func100.trans (congrArg some (by kernel_rfl))
  t3 := Tryd.underlying3
  a3 := Tryd.isAgg3
  z3 := Tryd.sizeOf3
  v3 := Tryd.zeroValue3
  t4 := Tryd.underlying4
  a4 := Tryd.isAgg4
  z4 := Tryd.sizeOf4
  v4 := Tryd.zeroValue4 }
open Go.RowKit Go.Lib in
/-- slices.isNaN[int]: 'x != x': false. (LAID: no walk: one application.) -/
theorem Tryd.slices_isNaN_int2 (x : Int) (w : World) :
    Calls Tryd.prog 100 #[.int .i64 x] w fun e w' => e = .returned (.bool false) ∧ w' = w := Any.slices_isNaN_int2 Tryd.laysNm232 x w
def Tryd.laysNm231_ren : Go.Shelf.Ren := ⟨fun | 31 => 99 | 37 => 106 | n => n, fun | 3 => 3 | 4 => 4 | n => n, fun | n => n⟩
theorem Tryd.laysNm231 : Go.Proofs.Lays2.n31 Tryd.prog Tryd.laysNm231_ren := {
  mixed := by kernel_rfl
  f31 := Tryd.func99.trans (congrArg some (by kernel_rfl))
  f37 := Tryd.func106.trans (congrArg some (by kernel_rfl))
  t3 := Tryd.underlying3
  a3 := Tryd.isAgg3
  z3 := Tryd.sizeOf3
  v3 := Tryd.zeroValue3
  t4 := Tryd.underlying4
  a4 := Tryd.isAgg4
  z4 := Tryd.sizeOf4
  v4 := Tryd.zeroValue4 }
open Go.RowKit Go.Lib in
/-- cmp.Less[int]: "Less reports whether x is less than y.": 'x < y'; the world is as it was. (LAID: no walk: one application.) -/
theorem Tryd.cmp_Less_int2 (x y : Int) (w : World) :
    Calls Tryd.prog 99 #[.int .i64 x, .int .i64 y] w fun e w' => e = .returned (.bool (decide (x < y))) ∧ w' = w := Any.cmp_Less_int2 Tryd.laysNm231 x y w
def Tryd.laysNm225_ren : Go.Shelf.Ren := ⟨fun | 25 => 94 | 31 => 99 | 32 => 100 | 37 => 106 | n => n, fun | 22 => 27 | 3 => 3 | 4 => 4 | 40 => 119 | 0 => 0 | n => n, fun | n => n⟩
theorem Tryd.laysNm225 : Go.Proofs.Lays2.n25 Tryd.prog Tryd.laysNm225_ren := {
  mixed := by kernel_rfl
  f25 := Tryd.func94.trans (congrArg some (by kernel_rfl))
  f31 := Tryd.func99.trans (congrArg some (by kernel_rfl))
  f32 := Tryd.func100.trans (congrArg some (by kernel_rfl))
  f37 := Tryd.func106.trans (congrArg some (by kernel_rfl))
  t0 := Tryd.underlying0
  a0 := Tryd.isAgg0
  z0 := Tryd.sizeOf0
  v0 := Tryd.zeroValue0
  t3 := Tryd.underlying3
  a3 := Tryd.isAgg3
  z3 := Tryd.sizeOf3
  v3 := Tryd.zeroValue3
  t4 := Tryd.underlying4
  a4 := Tryd.isAgg4
  z4 := Tryd.sizeOf4
  v4 := Tryd.zeroValue4
  t22 := Tryd.underlying27
  a22 := Tryd.isAgg27
  z22 := Tryd.sizeOf27
  v22 := Tryd.zeroValue27
  t40 := Tryd.underlying119
  a40 := Tryd.isAgg119
  z40 := Tryd.sizeOf119
  v40 := Tryd.zeroValue119 }
open Go.RowKit Go.Lib in
/-- slices.BinarySearch at []int: "BinarySearch searches for target in a sorted slice and returns the earliest position where target is found, or the position where target would appear in the sort order; it also returns a bool saying whether the target is really found in the slice. The slice must be sorted in increasing order.": OF A SORTED SLICE IT RETURNS how many elements are less than the target, and whether the target is among the elements; the world is as it was but for the count of draws. 'zs': what the cells behind the slice's address hold; 'zs.take n': its elements. (Of a slice that is not sorted: no contract here.) (LAID: no walk: one application.) -/
theorem Tryd.slices_BinarySearch_int (b off n c : Nat) (zs : List Int) (x : Int) (w : World) (hz : n ≤ zs.length) (hbig : n < 4611686018427387904) (hc : ∀ j, j < zs.length → w.cell? ⟨b, off + j, none⟩ = some (.int .i64 (zs.getD j 0))) (hs : (zs.take n).Pairwise (· ≤ ·)) :
    Calls Tryd.prog 94 #[.slice (some ⟨b, off, none⟩) n c, .int .i64 x] w fun e w' => e = .returned (.tuple #[.int .i64 ((zs.take n).countP (· < x) : Nat), .bool ((zs.take n).contains x)]) ∧ ∃ q, w' = w.drewN q := Any.slices_BinarySearch_int Tryd.laysNm225 b off n c zs x w hz hbig hc hs
def Tryd.laysNm223_ren : Go.Shelf.Ren := ⟨fun | 23 => 93 | n => n, fun | 22 => 27 | 3 => 3 | 4 => 4 | 0 => 0 | n => n, fun | n => n⟩
theorem Tryd.laysNm223 : Go.Proofs.Lays2.n23 Tryd.prog Tryd.laysNm223_ren := {
  mixed := by kernel_rfl
  f23 := Tryd.func93.trans (congrArg some (by kernel_rfl))
  t0 := Tryd.underlying0
  a0 := Tryd.isAgg0
  z0 := Tryd.sizeOf0
  v0 := Tryd.zeroValue0
  t3 := Tryd.underlying3
  a3 := Tryd.isAgg3
  z3 := Tryd.sizeOf3
  v3 := Tryd.zeroValue3
  t4 := Tryd.underlying4
  a4 := Tryd.isAgg4
  z4 := Tryd.sizeOf4
  v4 := Tryd.zeroValue4
  t22 := Tryd.underlying27
  a22 := Tryd.isAgg27
  z22 := Tryd.sizeOf27
  v22 := Tryd.zeroValue27
  i3 := by kernel_rfl }
open Go.RowKit Go.Lib Go.Sort in
/-- slices.Delete at []int, over an array. (LAID: no walk: one application.) -/
theorem Tryd.slices_Delete_int_arr (blk off cap i j : Nat) (d : Array Int) (w : World) (hH : Holds encI w blk off d) (hcap : d.size ≤ cap) (hm : cap ≤ 9223372036854775807) (hij : i ≤ j) (hj : j ≤ d.size) :
    Calls Tryd.prog 93 #[.slice (some ⟨blk, off, none⟩) d.size cap, .int .i64 i, .int .i64 j] w fun e w' => e = .returned (.slice (some ⟨blk, off, none⟩) (d.size - (j - i)) cap) ∧ ∃ q, w' = putRow encI (Sort.ahead w q) blk off (d.toList.take i ++ d.toList.drop j ++ List.replicate (j - i) 0).toArray := Any.slices_Delete_int_arr Tryd.laysNm223 blk off cap i j d w hH hcap hm hij hj
open Go.RowKit Go.Lib Go.Sort in
/-- slices.Delete at []int: "Delete modifies s in place by removing the elements s[i:j], and returns the modified slice. Delete panics if j > len(s) or s[i:j] is not a valid slice of s. Delete is O(len(s)-i), so if many items must be deleted, it is better to make a single call deleting them all together than to delete one at a time. Delete zeroes the elements s[len(s)-(j-i):len(s)]. If the result is empty, it has the same nilness as s.": FOR i ≤ j ≤ len(s) IT RETURNS THE SLICE CUT TO len(s) - (j - i) ELEMENTS; ITS CELLS HOLD what stood ahead of i, what stood from j on, then j - i zero values; all else is as it was, but for the count of draws. IN THE WORDS OF slices.Sort's CONTRACT ('Holds', 'putRow'). It asks 'zs.length ≤ cap ≤ 2^63 - 1' (every slice's). (Outside i ≤ j ≤ len(s) it panics: no contract here.) (LAID: no walk: one application.) -/
theorem Tryd.slices_Delete_int (blk off cap i j : Nat) (zs : List Int) (w : World) (hH : Holds (Value.int .i64) w blk off zs.toArray) (hcap : zs.length ≤ cap) (hm : cap ≤ 9223372036854775807) (hij : i ≤ j) (hj : j ≤ zs.length) :
    Calls Tryd.prog 93 #[.slice (some ⟨blk, off, none⟩) zs.length cap, .int .i64 i, .int .i64 j] w fun e w' => e = .returned (.slice (some ⟨blk, off, none⟩) (zs.length - (j - i)) cap) ∧ ∃ q, w' = putRow (Value.int .i64) (Sort.ahead w q) blk off (zs.take i ++ zs.drop j ++ List.replicate (j - i) 0).toArray := Any.slices_Delete_int Tryd.laysNm223 blk off cap i j zs w hH hcap hm hij hj
open Go.RowKit Go.Lib Go.Sort in
/-- slices.Reverse at []int, of an argument: the n cells hold the elements in reverse. (LAID: no walk: one application.) -/
theorem Tryd.slices_Reverse_int_cells (b off n c : Nat) (zs : List Int) (w : World) (hz : n ≤ zs.length) (hbig : n ≤ 9223372036854775807) (hc : ∀ j, j < zs.length → w.cell? ⟨b, off + j, none⟩ = some (.int .i64 (zs.getD j 0))) (hf : ∀ j, j < n → w.frozen? ⟨b, off + j, none⟩ = false) :
    Calls Tryd.prog 112 #[.slice (some ⟨b, off, none⟩) n c] w fun e w' => e = .returned (.tuple #[]) ∧ ∃ q, w' = (w.drewN q).setCells b off ((zs.take n).reverse.map (Value.int .i64)) := Any.slices_Reverse_int_cells Tryd.lays112 b off n c zs w hz hbig hc hf
open Go.RowKit Go.Lib Go.Sort in
/-- slices.Delete at []int, of an argument, for i ≤ j ≤ n: the slice cut to n - (j - i) elements; the n cells hold what stood ahead of i, what stood from j on, then zeros. (LAID: no walk: one application.) -/
theorem Tryd.slices_Delete_int_cells (b off n c i j : Nat) (zs : List Int) (w : World) (hz : n ≤ zs.length) (hcap : n ≤ c) (hm : c ≤ 9223372036854775807) (hij : i ≤ j) (hj : j ≤ n) (hc : ∀ j, j < zs.length → w.cell? ⟨b, off + j, none⟩ = some (.int .i64 (zs.getD j 0))) (hf : ∀ j, j < n → w.frozen? ⟨b, off + j, none⟩ = false) :
    Calls Tryd.prog 93 #[.slice (some ⟨b, off, none⟩) n c, .int .i64 i, .int .i64 j] w fun e w' => e = .returned (.slice (some ⟨b, off, none⟩) (n - (j - i)) c) ∧ ∃ q, w' = (w.drewN q).setCells b off (((zs.take n).take i ++ (zs.take n).drop j ++ List.replicate (j - i) 0).map (Value.int .i64)) := Any.slices_Delete_int_cells Tryd.laysNm223 b off n c i j zs w hz hcap hm hij hj hc hf
open Go.RowKit Go.Lib in
/-- slices.BinarySearch at []int of no element: position 0, not found; the world is as it was. (LAID: no walk: one application.) -/
theorem Tryd.slices_BinarySearch_int_empty (a : Option Addr) (c : Nat) (x : Int) (w : World) :
    Calls Tryd.prog 94 #[.slice a 0 c, .int .i64 x] w fun e w' => e = .returned (.tuple #[.int .i64 0, .bool false]) ∧ w' = w := Any.slices_BinarySearch_int_empty Tryd.laysNm225 a c x w
open Go.RowKit Go.Lib in
/-- slices.Delete at []int of no element ('Delete(s, 0, 0)'): s comes back; the world is as it was. (LAID: no walk: one application.) -/
theorem Tryd.slices_Delete_int_empty (a : Option Addr) (c : Nat) (w : World) :
    Calls Tryd.prog 93 #[.slice a 0 c, .int .i64 0, .int .i64 0] w fun e w' => e = .returned (.slice a 0 c) ∧ w' = w := Any.slices_Delete_int_empty Tryd.laysNm223 a c w
end Go.Proofs

namespace Go.Proofs.YtmbkjccckmlacaaDoor
open Go.RowKit Go.Shelf Go.Lib
set_option linter.unusedVariables false
set_option linter.unusedSimpArgs false

def laysIns_ren : Go.Shelf.Ren := ⟨fun | 21 => 92 | 27 => 97 | 28 => 98 | 35 => 105 | 39 => 112 | n => n, fun | 22 => 27 | 3 => 3 | 4 => 4 | 0 => 0 | n => n, fun | n => n⟩
theorem laysIns : Go.Proofs.Lays2.n21 Tryd.prog laysIns_ren := {
  mixed := by kernel_rfl
  f21 := Tryd.func92.trans (congrArg some (by kernel_rfl))
  f27 := Tryd.func97.trans (congrArg some (by kernel_rfl))
  f28 := Tryd.func98.trans (congrArg some (by kernel_rfl))
  f35 := Tryd.func105.trans (congrArg some (by kernel_rfl))
  f39 := Tryd.func112.trans (congrArg some (by kernel_rfl))
  t0 := Tryd.underlying0
  a0 := Tryd.isAgg0
  z0 := Tryd.sizeOf0
  v0 := Tryd.zeroValue0
  t3 := Tryd.underlying3
  a3 := Tryd.isAgg3
  z3 := Tryd.sizeOf3
  v3 := Tryd.zeroValue3
  t4 := Tryd.underlying4
  a4 := Tryd.isAgg4
  z4 := Tryd.sizeOf4
  v4 := Tryd.zeroValue4
  t22 := Tryd.underlying27
  a22 := Tryd.isAgg27
  z22 := Tryd.sizeOf27
  v22 := Tryd.zeroValue27
  i3 := by kernel_rfl }

/-- cells vs laid over xs from o on -/
def spl : List Value → Nat → List Value → List Value
  | xs, _, [] => xs
  | xs, o, v :: vs => spl (xs.set o v) (o + 1) vs
theorem spl_eq : ∀ (vs xs : List Value) (o : Nat), o + vs.length ≤ xs.length → spl xs o vs = xs.take o ++ vs ++ xs.drop (o + vs.length)
  | [], xs, o, _ => by simp [spl]
  | v :: vs, xs, o, h => by
    simp only [List.length_cons] at h
    rw [spl, spl_eq vs (xs.set o v) (o + 1) (by rw [List.length_set]; omega), List.take_succ_eq_append_getElem (by rw [List.length_set]; omega), List.getElem_set_self, List.take_set_of_le (Nat.le_refl _), List.drop_set_of_lt (by omega)]
    simp only [List.length_cons, List.append_assoc, List.cons_append, List.nil_append]
    rw [show o + 1 + vs.length = o + (vs.length + 1) by omega]
theorem row_spl {base g cap n size : Nat} {e : TypeId} : ∀ (vs : List Value) (o : Nat) (xs : List Value) (w : World), w.ownsRow base e size (.slice (some ⟨g, 0, none⟩) n cap) n xs →
    (w.setCells g o vs).ownsRow base e size (.slice (some ⟨g, 0, none⟩) n cap) n (spl xs o vs) ∧ Below base w (w.setCells g o vs)
  | [], o, xs, w, h => ⟨h, Below.refl _ _⟩
  | v :: vs, o, xs, w, h => by
    obtain ⟨h1, _⟩ := World.ownsRow.stored h o v
    obtain ⟨h3, h4⟩ := row_spl vs (o + 1) _ _ h1
    exact ⟨h3, Below.trans ((Below.refl base w).setCell (p := ⟨g, o, none⟩) (World.ownsRow.lt h g rfl).1 v) h4⟩
/-- a row with room, one element longer -/
theorem row_more {base g cap n k size : Nat} {e : TypeId} {xs : List Value} {w : World} (h : w.ownsRow base e size (.slice (some ⟨g, 0, none⟩) n cap) n xs) (hn : n ≤ k) (hk : k ≤ cap) : ∃ ys, w.ownsRow base e size (.slice (some ⟨g, 0, none⟩) k cap) k ys ∧ ys.take (n * size) = xs := by
  obtain ⟨h1, h2⟩ := h
  rcases h2 with ⟨e0, _⟩ | ⟨g', cap', cur, e0, hb, hg, hn', hm, hs, ht⟩
  · cases e0
  · injection e0 with e1 _ e3
    injection e1 with e1
    injection e1 with e1
    subst e1; subst e3
    have hk2 : k * size ≤ cap * size := Nat.mul_le_mul_right _ hk
    have hn2 : n * size ≤ k * size := Nat.mul_le_mul_right _ hn
    refine ⟨cur.toList.take (k * size), ⟨by rw [List.length_take, Array.length_toList, hs, Nat.min_eq_left hk2], .inr ⟨g, cap, cur, rfl, hb, hg, hk, hm, hs, rfl⟩⟩, ?_⟩
    rw [List.take_take, Nat.min_eq_left hn2, ht]

abbrev rz (l : List Int) : List Value := l.map (Value.int .i64)
theorem rz_one (l : List Int) : ∀ v ∈ rz l, v.oneCell' = true := by
  intro v hv
  obtain ⟨n, _, rfl⟩ := List.mem_map.1 hv
  rfl
theorem insI_cells (l : List Int) (x : Int) (i : Nat) (hi : i ≤ l.length) (ys : List Value) (hl : ys.length = l.length + 1) (ht : ys.take i = (rz l).take i) :
    spl (spl ys (i + 1) ((rz l).drop i)) i [.int .i64 x] = rz (l.take i ++ x :: l.drop i) := by
  have hd : ((rz l).drop i).length = l.length - i := by simp [rz]
  rw [spl_eq _ ys (i + 1) (by rw [hd, hl]; omega)]
  have e1 : ys.drop (i + 1 + ((rz l).drop i).length) = [] := List.drop_eq_nil_of_le (by rw [hd, hl]; omega)
  rw [e1, List.append_nil]
  have hlt : (ys.take (i + 1)).length = i + 1 := by rw [List.length_take, hl]; omega
  rw [spl_eq [Value.int .i64 x] _ i (by rw [List.length_append, hlt, hd]; simp)]
  have e2 : (ys.take (i + 1) ++ (rz l).drop i).take i = (rz l).take i := by
    rw [List.take_append_of_le_length (by omega), List.take_take, Nat.min_eq_left (by omega), ht]
  have e3 : (ys.take (i + 1) ++ (rz l).drop i).drop (i + [Value.int .i64 x].length) = (rz l).drop i := by
    have h3 : i + [Value.int .i64 x].length = (ys.take (i + 1)).length + 0 := by rw [hlt]; rfl
    rw [h3, List.drop_length_add_append, List.drop_zero]
  rw [e2, e3]
  simp [rz]
theorem insI_cells2 (l : List Int) (x : Int) (i : Nat) (hi : i ≤ l.length) (ys : List Value) (hl : ys.length = l.length + 1) (ht : ys.take i = (rz l).take i) :
    spl (spl ys i [.int .i64 x]) (i + 1) ((rz l).drop i) = rz (l.take i ++ x :: l.drop i) := by
  have hd : ((rz l).drop i).length = l.length - i := by simp [rz]
  rw [spl_eq [Value.int .i64 x] ys i (by rw [hl]; simp; omega)]
  have hll : (ys.take i ++ [Value.int .i64 x] ++ ys.drop (i + [Value.int .i64 x].length)).length = l.length + 1 := by simp [hl]; omega
  rw [spl_eq _ _ (i + 1) (by rw [hll, hd]; omega)]
  have hti : (ys.take i).length = i := by rw [List.length_take, hl]; omega
  have e1 : (ys.take i ++ [Value.int .i64 x] ++ ys.drop (i + [Value.int .i64 x].length)).take (i + 1) = ys.take i ++ [Value.int .i64 x] := by
    rw [List.take_append_of_le_length (by simp [hti]), List.take_of_length_le (by simp [hti])]
  have e2 : (ys.take i ++ [Value.int .i64 x] ++ ys.drop (i + [Value.int .i64 x].length)).drop (i + 1 + ((rz l).drop i).length) = [] := List.drop_eq_nil_of_le (by rw [hll, hd]; omega)
  rw [e1, e2, List.append_nil, ht]
  simp [rz]
theorem RowI.forms2 {base : Nat} {v : Value} {l : List Int} {w : World} (h : RowI base v l w) : (v = .slice none 0 0 ∧ l = []) ∨ ∃ g cap cur, v = .slice (some ⟨g, 0, none⟩) l.length cap ∧ base ≤ g ∧ w.heap[g]? = some (.cells cur 3 (0, 0)) ∧ l.length ≤ cap ∧ cap ≤ maxLen ∧ cur.size = cap ∧ cur.toList.take l.length = rz l := by
  obtain ⟨h1, h2⟩ := h
  rcases h2 with ⟨e0, e1⟩ | ⟨g, cap, cur, e0, hb, hg, hn, hm, hs, ht⟩
  · exact .inl ⟨e0, List.eq_nil_of_length_eq_zero (by simpa using e1)⟩
  · exact .inr ⟨g, cap, cur, e0, hb, hg, hn, hm, by simpa using hs, by simpa using ht⟩

theorem RowI.of_cells {base : Nat} {v : Value} {l : List Int} {w : World} {n : Nat} {xs : List Value} (h : w.ownsRow base 3 1 v n xs) (hn : n = l.length) (hx : xs = rz l) : RowI base v l w := by subst hn; subst hx; exact h
theorem drewB (base : Nat) (W : World) : Below base W W.drew := ⟨rfl, rfl, rfl, Nat.le_refl _, fun _ _ => rfl⟩
theorem zeroI_size (n : Nat) : (Builtin.zeroCells (Value.int .i64 0).cells n).size = n := by simp [Builtin.zeroCells, Value.cells]
/-- a fresh row -/
theorem fresh_row (base n G : Nat) (w : World) (xs : List Value) (Z : Array Value) (hx : xs.length = n) (hG : n ≤ G) (hGM : G ≤ maxLen) (hz : Z.size = G - n) (hbase : base ≤ w.heap.size) :
    (w.alloc (.cells (xs.toArray ++ Z) 3)).ownsRow base 3 1 (.slice (some ⟨w.heap.size, 0, none⟩) n G) n xs := by
  refine ⟨by rw [hx, Nat.mul_one], .inr ⟨w.heap.size, G, xs.toArray ++ Z, rfl, hbase, alloc_here _ _, hG, hGM, by simp [hx, hz]; omega, ?_⟩⟩
  rw [Nat.mul_one, ← hx]
  simp
/-- slices.Insert of one number -/
theorem InsI_any (l : List Int) (x : Int) (i base : Nat) (v : Value) (w : World) (hi : i ≤ l.length) (hl : l.length ≤ 1000) (hR : RowI base v l w) (hbase : base ≤ w.heap.size) (vb : Nat) (hvb : w.cell? ⟨vb, 0, none⟩ = some (.int .i64 x)) (hsh : ∃ t, w.shape? vb = some (t, 1)) (hf0 : w.frozen? ⟨vb, 0, none⟩ = false) (hf1 : w.frozen? ⟨vb, 1, none⟩ = false) (hne : ∀ g, v.ownBlock = some g → vb ≠ g) :
    Calls Tryd.prog 92 #[v, .int .i64 i, .slice (some ⟨vb, 0, none⟩) 1 1] w fun e w' => ∃ v', e = .returned v' ∧ RowI base v' (l.take i ++ x :: l.drop i) w' ∧ Below base w w' := by
  have hvs : ∀ j v, [Value.int .i64 x][j]? = some v → w.cell? ⟨vb, 0 + j, none⟩ = some v := fun j v hj => by
    have hj0 : j = 0 := by have := (List.getElem?_eq_some_iff.1 hj).1; simpa using this
    subst hj0; cases hj; exact hvb
  have h1v : ∀ v ∈ [Value.int .i64 x], v.oneCell' = true := fun v hv => by rw [List.mem_singleton.1 hv]; rfl
  have hlen : (l.take i ++ x :: l.drop i).length = l.length + 1 := by simp; omega
  rcases hR.forms2 with ⟨rfl, rfl⟩ | ⟨g, cap, cur, rfl, hbg, hg, hn, hm, hs, ht⟩
  · obtain rfl : i = 0 := by simpa using hi
    refine (Any2.slices_Insert_int_end_grow laysIns none 0 0 vb 0 1 1 [] [.int .i64 x] w (by omega) (by omega) (by omega) (by omega) rfl rfl (fun _ => rfl) (fun a e => by cases e) hvs h1v).mono ?_
    rintro e w' ⟨rfl, rfl⟩
    rw [show laysIns_ren.t 3 = 3 from rfl]
    refine ⟨_, rfl, ?_, (drewB base w).alloc hbase _⟩
    have hG1 := grownCap_ge w (0 + 1) 0 3
    have hG2 := grownCap_le_maxLen w (0 + 1) 0 3 (by unfold maxLen; omega)
    have hf := fresh_row base 1 (grownCap w (0 + 1) 0 3) w.drew ([] ++ [.int .i64 x]) (Builtin.zeroCells (Value.int .i64 0).cells (grownCap w (0 + 1) 0 3 - (0 + 1))) rfl hG1 hG2 (zeroI_size _) hbase
    have hfin := RowI.of_cells (l := [x]) hf rfl rfl
    exact hfin
  · have hc : ∀ j u, (rz l)[j]? = some u → w.cell? ⟨g, 0 + j, none⟩ = some u := fun j u hj => by
      have hj2 : j < l.length := by have := (List.getElem?_eq_some_iff.1 hj).1; simpa [rz] using this
      rw [Nat.zero_add, World.ownsRow.cellAt hR j (by omega)]
      exact hj
    have hsp : ∀ j, j < cap → (w.cell? ⟨g, j, none⟩).isSome = true := fun j hj => by rw [cell_of hg (v := cur[j]'(by omega)) (by rw [Array.getElem?_eq_getElem])]; rfl
    have hfz : ∀ j, w.frozen? ⟨g, j, none⟩ = false := fun j => free_of hg
    have hrl : (rz l).length = l.length := by simp [rz]
    have hgz := lt_of_block hg
    have hvbg : vb ≠ g := hne g rfl
    have hm2 : cap ≤ 9223372036854775807 := by unfold maxLen at hm; omega
    by_cases hil : i = l.length
    · subst hil
      rw [List.take_length, List.drop_length]
      by_cases hroom : l.length + 1 ≤ cap
      · refine (Any2.slices_Insert_int_end_room laysIns g 0 l.length cap vb 0 1 1 [.int .i64 x] w (by omega) hroom hm2 rfl (fun j hj => by rw [Nat.zero_add]; exact hsp _ (by omega)) (fun j hj => hfz _) hvs h1v).mono ?_
        rintro e w' ⟨rfl, rfl⟩
        obtain ⟨ys, hy, hyt⟩ := row_more hR (k := l.length + 1) (by omega) hroom
        obtain ⟨a1, a2⟩ := row_spl [.int .i64 x] (0 + l.length) _ _ hy
        refine ⟨_, rfl, RowI.of_cells a1 (by simp) ?_, a2⟩
        rw [Nat.zero_add]
        have hyl : ys.length = l.length + 1 := by have := hy.1; omega
        have := insI_cells l x l.length (Nat.le_refl _) ys hyl (by rw [Nat.mul_one] at hyt; rw [hyt, ← hrl, List.take_length])
        rw [show (rz l).drop l.length = [] from List.drop_eq_nil_of_le (by rw [hrl]; exact Nat.le_refl _)] at this
        simpa [spl] using this
      · refine (Any2.slices_Insert_int_end_grow laysIns (some ⟨g, 0, none⟩) l.length cap vb 0 1 1 (rz l) [.int .i64 x] w (by omega) hn (by omega) (by omega) hrl rfl (fun e => by cases e) (fun a e j u hj => by
          cases e
          have e : (⟨g, 0, none⟩ : Addr).add j = ⟨g, 0 + j, none⟩ := by unfold Addr.add; split <;> simp_all
          rw [e]; exact hc j u hj) hvs h1v).mono ?_
        rintro e w' ⟨rfl, rfl⟩
        rw [show laysIns_ren.t 3 = 3 from rfl]
        refine ⟨_, rfl, ?_, (drewB base w).alloc hbase _⟩
        have hG1 := grownCap_ge w (l.length + 1) cap 3
        have hG2 := grownCap_le_maxLen w (l.length + 1) cap 3 (by unfold maxLen; omega)
        have hf := fresh_row base (l.length + 1) (grownCap w (l.length + 1) cap 3) w.drew (rz l ++ [.int .i64 x]) (Builtin.zeroCells (Value.int .i64 0).cells (grownCap w (l.length + 1) cap 3 - (l.length + 1))) (by simp [rz]) hG1 hG2 (zeroI_size _) hbase
        have hfin := RowI.of_cells (l := l ++ [x]) hf (by simp) (by simp [rz])
        exact hfin
    · have hil2 : i < l.length := by omega
      obtain ⟨t, hsh⟩ := hsh
      by_cases hroom : l.length + 1 ≤ cap
      · refine (Any2.slices_Insert_int_shift laysIns g 0 l.length cap i vb 0 1 1 (rz l) [.int .i64 x] w hil2 (by omega) hroom hm2 hvbg hrl rfl hc (fun j hj => by rw [Nat.zero_add]; exact hsp _ (by omega)) (fun j hj => hfz _) hvs (rz_one l) h1v t 3 1 cap hsh (by simp [World.shape?, hg, hs]) (by omega) hf0 hf1).mono ?_
        rintro e w' ⟨rfl, rfl⟩
        obtain ⟨ys, hy, hyt⟩ := row_more hR (k := l.length + 1) (by omega) hroom
        have hyd : w.drew.ownsRow base 3 1 (.slice (some ⟨g, 0, none⟩) (l.length + 1) cap) (l.length + 1) ys := hy
        obtain ⟨a1, a2⟩ := row_spl ((rz l).drop i) (0 + (i + 1)) _ _ hyd
        obtain ⟨a3, a4⟩ := row_spl [.int .i64 x] (0 + i) _ _ a1
        refine ⟨_, rfl, RowI.of_cells a3 (by rw [hlen]) ?_, Below.trans (drewB _ _) (Below.trans a2 a4)⟩
        have hyl : ys.length = l.length + 1 := by have := hy.1; omega
        rw [Nat.zero_add, Nat.zero_add]
        have hyt2 : ys.take l.length = rz l := by rw [Nat.mul_one] at hyt; exact hyt
        exact insI_cells l x i hi ys hyl (by
          rw [← hyt2, List.take_take, Nat.min_eq_left (by omega)])
      · refine (Any2.slices_Insert_int_grow laysIns g 0 l.length cap i vb 0 1 1 (rz l) [.int .i64 x] w hil2 (by omega) hn (by omega) (by omega) hrl rfl hc hvs (rz_one l) h1v).mono ?_
        rintro e w' ⟨rfl, rfl⟩
        rw [show laysIns_ren.t 3 = 3 from rfl]
        have hG1 := grownCap_ge w (l.length + 1) cap 3
        have hG2 := grownCap_le_maxLen w (l.length + 1) cap 3 (by unfold maxLen; omega)
        generalize grownCap w (l.length + 1) cap 3 = G at *
        have hf := fresh_row base (l.length + 1) G w ((rz l).take i ++ (Builtin.zeroCells (Value.int .i64 0).cells (l.length + 1 - i)).toList) (Builtin.zeroCells (Value.int .i64 0).cells (G - (l.length + 1))) (by simp [zeroI_size, hrl]; omega) hG1 hG2 (zeroI_size _) hbase
        have hrow : ((rz l).take i ++ (Builtin.zeroCells (Value.int .i64 0).cells (l.length + 1 - i)).toList).toArray ++ Builtin.zeroCells (Value.int .i64 0).cells (G - (l.length + 1)) = ((rz l).take i).toArray ++ Builtin.zeroCells (Value.int .i64 0).cells (l.length + 1 - i) ++ Builtin.zeroCells (Value.int .i64 0).cells (G - (l.length + 1)) := Array.toList_inj.1 (by simp)
        rw [hrow] at hf
        generalize (((rz l).take i).toArray ++ Builtin.zeroCells (Value.int .i64 0).cells (l.length + 1 - i) ++ Builtin.zeroCells (Value.int .i64 0).cells (G - (l.length + 1))) = ROW at *
        have hfd : ((w.alloc (.cells ROW 3)).drew).ownsRow base 3 1 (.slice (some ⟨w.heap.size, 0, none⟩) (l.length + 1) G) (l.length + 1) _ := hf
        obtain ⟨a1, a2⟩ := row_spl [.int .i64 x] i _ _ hfd
        have a1' : (((w.alloc (.cells ROW 3)).drew.setCells w.heap.size i [.int .i64 x]).drew).ownsRow base 3 1 (.slice (some ⟨w.heap.size, 0, none⟩) (l.length + 1) G) (l.length + 1) _ := a1
        obtain ⟨a3, a4⟩ := row_spl ((rz l).drop i) (i + 1) _ _ a1'
        refine ⟨_, rfl, RowI.of_cells a3 (by rw [hlen]) ?_, Below.trans ((Below.refl base w).alloc hbase _) (Below.trans (drewB _ _) (Below.trans a2 (Below.trans (drewB _ _) a4)))⟩
        exact insI_cells2 l x i hi _ (by simp [zeroI_size, hrl]; omega) (by rw [List.take_append_of_le_length (by rw [List.length_take, hrl]; omega), List.take_take, Nat.min_self])
end Go.Proofs.YtmbkjccckmlacaaDoor

namespace Go.Proofs.YtmbkjccckmlacaaDoor
open Go.RowKit Go.Shelf
set_option linter.unusedVariables false
set_option linter.unusedSimpArgs false

theorem grownBy_putI {w : World} {g q : Nat} (d : Array Int) : w.grownBy (Go.Sort.putRow (Value.int .i64) (Go.Sort.ahead w q) g 0 d) (some g) := by
  have h := grownBy_sortedI (w := w) (g := g) (n := q) (os := #[]) d
  rwa [Go.Sort.grow_empty] at h
theorem RowI.grown {base : Nat} {v : Value} {l : List Int} {w w' : World} (h : RowI base v l w) (hb : base ≤ w.heap.size) (hg : w.grownBy w' v.ownBlock) : Below base w w' :=
  (Below.refl base w).grown hg hb (fun k e => (World.ownsRow.lt h k e).1)
theorem CloneI_row (l : List Int) (a : Option Addr) (c : Nat) (w : World) (hl : l.length ≤ 1000000000) (hA : IntsAt w a l) :
    Calls Tryd.prog 50 #[.slice a l.length c] w fun e w' => ∃ v', e = .returned v' ∧ RowI w.heap.size v' l w' ∧ Ext w w' := by
  cases l with
  | nil =>
    cases a with
    | none =>
      refine (Tryd.slices_Clone_int_nil 0 c w).mono ?_
      rintro e w' ⟨rfl, rfl⟩
      exact ⟨_, rfl, RowI.nil _ _, Below.refl _ _⟩
    | some a =>
      refine (Tryd.slices_Clone_int_zero a c w).mono ?_
      rintro e w' ⟨v', rfl, h1, _, h2⟩
      exact ⟨_, rfl, h1, h2⟩
  | cons x l =>
    obtain ⟨b, off, rfl, _⟩ := hA 0 (by simp)
    refine (Tryd.slices_Clone_int b off (x :: l).length c (x :: l) w (Nat.le_refl _) (by omega) (fun j hj => ?_)).mono ?_
    · obtain ⟨b', off', e, hc⟩ := hA j hj
      injection e with e
      injection e with e1 e2
      subst e1; subst e2
      rw [hc, List.getD_eq_getElem?_getD, List.getElem?_eq_getElem hj]; rfl
    · rintro e w' ⟨v', rfl, h1, _, h2⟩
      refine ⟨_, rfl, ?_, h2⟩
      rw [List.take_length] at h1
      exact h1
/-- slices.Delete of one number -/
theorem DelI_any (l : List Int) (i base : Nat) (v : Value) (w : World) (hi : i < l.length) (hl : l.length ≤ 1000) (hR : RowI base v l w) (hbase : base ≤ w.heap.size) :
    Calls Tryd.prog 93 #[v, .int .i64 (i : Int), .int .i64 ((i : Int) + 1)] w fun e w' => ∃ v', e = .returned v' ∧ RowI base v' (l.eraseIdx i) w' ∧ Below base w w' := by
  rcases hR.2 with ⟨rfl, h0⟩ | ⟨g, cap, cur, rfl, hb, hg, hn, hm, hs, ht⟩
  · omega
  · have hm2 : cap ≤ 9223372036854775807 := by unfold maxLen at hm; omega
    have hH := holds_of_blockI hg (by have t := ht; rw [Nat.mul_one] at t; exact t)
    have key := Tryd.slices_Delete_int g 0 cap i (i + 1) l w hH hn hm2 (by omega) (by omega)
    rw [show ((i + 1 : Nat) : Int) = (i : Int) + 1 by omega] at key
    refine key.mono ?_
    rintro e w' ⟨rfl, q, rfl⟩
    have hlen : (l.eraseIdx i).length = l.length - 1 := List.length_eraseIdx_of_lt hi
    have he : l.take i ++ l.drop (i + 1) = l.eraseIdx i := by rw [List.eraseIdx_eq_take_drop_succ]
    refine ⟨_, rfl, ?_, RowI.grown hR hbase (grownBy_putI _)⟩
    have h' := Lib.ownsRow_putRow (enc := Value.int .i64) (q := q) (k := l.length - 1) (ys := l.take i ++ l.drop (i + 1) ++ List.replicate (i + 1 - i) 0) hR (by simp; omega) (by omega)
    rw [he] at h' ⊢
    rw [show (l.eraseIdx i ++ List.replicate (i + 1 - i) (0 : Int)).take (l.length - 1) = l.eraseIdx i by rw [← hlen, List.take_left]] at h'
    unfold RowI
    rw [hlen]
    rw [show l.length - (i + 1 - i) = l.length - 1 by omega]
    exact h'
theorem posM_count : ∀ {l : List Int} {x : Int}, l.Pairwise (· ≤ ·) → l.countP (fun y => decide (y < x)) = posM l x
  | [], x, _ => rfl
  | a :: l, x, h => by
    obtain ⟨h1, h2⟩ := List.pairwise_cons.1 h
    unfold posM
    rw [List.takeWhile_cons, List.countP_cons]
    by_cases ha : a < x
    · have ih := posM_count (l := l) (x := x) h2
      unfold posM at ih
      simp [ha, ih]
    · have : l.countP (fun y => decide (y < x)) = 0 := by
        rw [List.countP_eq_zero]
        intro b hb
        have := h1 b hb
        simp; omega
      simp [ha, this]
theorem isM_mem : ∀ {l : List Int} {x : Int}, l.Pairwise (· ≤ ·) → isM l x = l.contains x
  | [], x, _ => by simp [isM]
  | a :: l, x, h => by
    obtain ⟨h1, h2⟩ := List.pairwise_cons.1 h
    have ih := isM_mem (l := l) (x := x) h2
    unfold isM posM at ih ⊢
    rw [List.takeWhile_cons]
    by_cases ha : a < x
    · have hne : ¬ x = a := by omega
      simp only [ha, decide_true, if_true, List.length_cons, List.getElem?_cons_succ]
      rw [ih]
      simp [hne]
    · simp only [ha, decide_false]
      by_cases he : x = a
      · subst he; simp
      · have : x ∉ l := fun hx => by have := h1 x hx; omega
        have he2 : ¬ a = x := fun e => he e.symm
        simp [he, this, he2]
theorem ascL_pair : ∀ {l : List Int}, ascL l = true → l.Pairwise (· < ·)
  | [], _ => List.Pairwise.nil
  | [a], _ => List.pairwise_singleton _ _
  | a :: b :: l, h => by
    unfold ascL at h
    simp only [Bool.and_eq_true, decide_eq_true_eq] at h
    have ih := ascL_pair (l := b :: l) h.2
    refine List.pairwise_cons.2 ⟨fun c hc => ?_, ih⟩
    rcases List.mem_cons.1 hc with rfl | hc
    · exact h.1
    · exact Int.lt_trans h.1 ((List.pairwise_cons.1 ih).1 c hc)
/-- slices.BinarySearch in ascending numbers -/
theorem BinI_any (l : List Int) (x : Int) (a : Option Addr) (c : Nat) (w : World) (hl : l.length ≤ 1000) (hA : IntsAt w a l) (hs : ascL l = true) :
    Gives Tryd.prog 94 #[.slice a l.length c, .int .i64 x] w (.tuple #[.int .i64 ((posM l x : Nat) : Int), .bool (isM l x)]) := by
  have hp : l.Pairwise (· ≤ ·) := (ascL_pair hs).imp (fun h => Int.le_of_lt h)
  by_cases h0 : l = []
  · subst h0
    refine (Tryd.slices_BinarySearch_int_empty a c x w).mono ?_
    rintro e w' ⟨rfl, rfl⟩
    exact ⟨rfl, Below.refl _ _⟩
  · have hpos : 0 < l.length := by cases l with | nil => exact absurd rfl h0 | cons => simp
    obtain ⟨b, off, rfl, _⟩ := hA 0 hpos
    refine (Tryd.slices_BinarySearch_int b off l.length c l x w (Nat.le_refl _) (by omega) (fun j hj => ?_) (by rw [List.take_length]; exact hp)).mono ?_
    · obtain ⟨b', off', e, hc⟩ := hA j hj
      injection e with e
      injection e with e1 e2
      subst e1; subst e2
      rw [hc, List.getD_eq_getElem?_getD, List.getElem?_eq_getElem hj]; rfl
    · rintro e w' ⟨rfl, q, rfl⟩
      rw [List.take_length, isM_mem hp]
      refine ⟨?_, (show Below w.heap.size w (w.drewN q) from ⟨rfl, rfl, rfl, Nat.le_refl _, fun _ _ => rfl⟩)⟩
      rw [← posM_count hp]
end Go.Proofs.YtmbkjccckmlacaaDoor

namespace Go.Proofs.YtmbkjccckmlacaaDoor
open Go.RowKit
set_option linter.unusedVariables false
set_option linter.unusedSimpArgs false

theorem IntsAt.ext {w W : World} {a : Option Addr} {l : List Int} (h : IntsAt w a l) (hE : Ext w W) : IntsAt W a l := h.below hE.below
theorem mdX (w : World) (k z : Int) : Ext w (w.alloc (.cells #[.int .i64 k, .int .i64 z] 23)) := ext_allocN w _
theorem shape_new (w : World) (c : Array Value) (t : TypeId) : (w.alloc (.cells c t)).shape? w.heap.size = some (t, c.size) := by
  have h := alloc_here w (.cells c t)
  simp only [World.shape?, h]
theorem RowI.look {base : Nat} {v : Value} {l : List Int} {w : World} (h : RowI base v l w) : ∃ x c, v = .slice x l.length c ∧ IntsAt w x l ∧ l.length ≤ c ∧ ∀ y, x = some y → base ≤ y.block := by
  rcases h.forms2 with ⟨rfl, rfl⟩ | ⟨g, cap, cur, rfl, hbg, hg, hn, hm, hs, ht⟩
  · exact ⟨none, 0, rfl, IntsAt.nil, Nat.le_refl _, fun y e => by cases e⟩
  · refine ⟨_, _, rfl, fun i hi => ⟨_, _, rfl, ?_⟩, hn, fun y e => by cases e; exact hbg⟩
    rw [Nat.zero_add, World.ownsRow.cellAt h i (by omega)]
    simp [hi]
theorem ApP.mk {w w' : World} {R : List Int × Int × Int} {a : Option Addr} {c : Nat} (h1 : IntsAt w' a R.1) (h2 : R.1.length ≤ c) {a0 : Option Addr} {l : List Int} (h3 : Ext w w') (h4 : Frm w a0 l a R.1) : ApP w a0 l R (.returned (.tuple #[.slice a R.1.length c, .int .i64 R.2.1, .int .i64 R.2.2])) w' := ⟨a, c, rfl, h1, h2, h3, h4⟩
set_option maxRecDepth 100000 in
set_option maxHeartbeats 2000000 in
theorem insert_any (k z : Int) (l : List Int) (i : Nat) (x : Int) (a : Option Addr) (c : Nat) (w : World) (hA : IntsAt w a l) (hi : i ≤ l.length) (hl : l.length ≤ 1000) (hc : l.length ≤ c) :
    Calls Tryd.prog 78 #[.agg #[.int .i64 k, .int .i64 z], .slice a l.length c, .int .i64 (i : Int), .int .i64 x] w (ApP w a l (insM z l i x)) := by
  have HI := Lib.hid (show insM z l i x = if 0 < z ∧ z ≤ l.length then (l, 0, 0) else if 100 ≤ l.length then ([], 0, 4) else (l.take i ++ x :: l.drop i, 1, 0) from rfl)
  generalize insM z l i x = R at *
  have c1 := mdb1 w k z
  have HX := Lib.hid (mdX w k z)
  have HA := Lib.hid (fun W (hW : Ext w W) => hA.ext hW)
  clear hA
  by_cases h1 : 0 < z
  case' neg => have d1 : decide (0 < z) = false := by simpa using h1
  case' pos =>
    have d1 : decide (0 < z) = true := by simpa using h1
    by_cases h2 : z ≤ (l.length : Int)
    case' neg => have d2 : decide (z ≤ (l.length : Int)) = false := by simpa using h2
    case' pos =>
      have d2 : decide (z ≤ (l.length : Int)) = true := by simpa using h2
      have HR := Lib.hid (show R = (l, 0, 0) by rw [HI.out, if_pos ⟨h1, h2⟩])
      clear h1 h2 HI
      go_enter Tryd.func78, Tryd.ntmps78
      go_wp2
      go_ret3
      obtain rfl := HR.out
      exact ApP.mk (HA.out _ HX.out) hc HX.out Frm.same
  all_goals
    have HI2 := Lib.hid (show R = if 100 ≤ l.length then ([], 0, 4) else (l.take i ++ x :: l.drop i, 1, 0) by rw [HI.out, if_neg (by omega)])
    by_cases h3 : 100 ≤ l.length
    · have d3 : decide ((100 : Int) ≤ (l.length : Int)) = true := by simp; omega
      have d3' : decide (100 ≤ l.length) = true := by simpa using h3
      have HR := Lib.hid (show R = ([], 0, 4) by rw [HI2.out, if_pos h3])
      clear HI HI2 h3
      go_enter Tryd.func78, Tryd.ntmps78
      go_wp2
      go_ret3
      obtain rfl := HR.out
      exact ApP.mk (c := 0) IntsAt.nil (Nat.le_refl _) HX.out Frm.none
    · have d3 : decide ((100 : Int) ≤ (l.length : Int)) = false := by simp; omega
      have d3' : decide (100 ≤ l.length) = false := by simpa using h3
      have HR := Lib.hid (show R = (l.take i ++ x :: l.drop i, 1, 0) by rw [HI2.out, if_neg h3])
      have HC := Lib.hid (fun W (hW : Ext w W) => CloneI_row l a c W (by omega) (HA.out W hW))
      have HL := Lib.hid (show (l.take i ++ x :: l.drop i).length = l.length + 1 by simp; omega)
      clear HI HI2 h3
      go_enter Tryd.func78, Tryd.ntmps78
      go_wp2_with fail
      refine (HC.out _ HX.out).mono ?_
      rintro e w1 ⟨v1, rfl, hR1, hE1⟩
      have HR1 := Lib.hid hR1
      have HE1 := Lib.hid (Ext.trans HX.out hE1)
      have hz := hE1.size
      have HNE := Lib.hid (show ∀ g, v1.ownBlock = some g → w1.heap.size ≠ g from fun g e h => by have := (World.ownsRow.lt hR1 g e).2; omega)
      clear hR1 hE1
      go_wp2_with fail
      have hz2 : (w.alloc (.cells #[.int .i64 k, .int .i64 z] 23)).heap.size = w.heap.size + 1 := by simp
      have hz3 : (w1.alloc (.cells #[.int .i64 x] 3)).heap.size = w1.heap.size + 1 := by simp
      obtain ⟨L2, hL2⟩ : ∃ L, l.take i ++ x :: l.drop i = L := ⟨_, rfl⟩
      have KI := Lib.hid (InsI_any l x i _ v1 (w1.alloc (.cells #[.int .i64 x] 3)) hi hl (HR1.out.ext (ext_allocN _ _)) (by omega) w1.heap.size (cell_of (alloc_here _ _) rfl) ⟨3, shape_new _ _ _⟩ (free_of (alloc_here _ _)) (free_of (alloc_here _ _)) HNE.out)
      rw [hL2] at KI HR HL
      clear hL2
      refine KI.out.mono ?_
      rintro e w2 ⟨v2, rfl, hR2, hB2⟩
      obtain ⟨x2, c2, rfl, hi2, hn2, hf2⟩ := hR2.look
      have HF2 := Lib.hid (show Frm w a l x2 L2 from .inl (fun y e => by have := hf2 y e; omega))
      have HI2 := Lib.hid hi2
      have HE2 := Lib.hid (show Ext w w2 from Below.trans HE1.out (Below.trans ((ext_allocN w1 _).mono HE1.out.size) (hB2.mono (by omega))))
      clear hi2 hR2 hB2 hf2
      go_wp2
      go_ret3
      obtain rfl := HR.out
      exact ApP.mk HI2.out hn2 HE2.out HF2.out
end Go.Proofs.YtmbkjccckmlacaaDoor

namespace Go.Proofs.YtmbkjccckmlacaaDoor
open Go.RowKit
set_option linter.unusedVariables false
set_option linter.unusedSimpArgs false

/-- the values below n -/
def svb (l : List Oper) (n : Nat) (a' : Act) (k : Nat) : Value := if k < n then sv l a' k else undef
structure AtK (n : Nat) (l : List Oper) (R : World → World → Prop) (Φ : Nat → (Nat → Value) → World → Prop) (J : Array Bool → (Nat → Value) → World → Prop) (a : Act) (w : World) (i : Nat) (o : Oper) (listed : Array Bool) (a' : Act) (W : World) : Prop extends AtG l R Φ a w i o a' W where
  jnv : J listed (svb l n a') W
  nl : listed.getD i false = false
  lsz : listed.size = l.length
  lanc : ∀ k, ancB l l.length i k = true → listed.getD k false = true
structure InvK (n : Nat) (l : List Oper) (R : World → World → Prop) (Φ : Nat → (Nat → Value) → World → Prop) (J : Array Bool → (Nat → Value) → World → Prop) (a : Act) (w : World) (listed : Array Bool) (a' : Act) (W : World) : Prop extends InvG l R Φ a w listed a' W where
  jnv : J listed (svb l n a') W
def GoesK (n : Nat) (P : Program) (l : List Oper) (R : World → World → Prop) (Φ : Nat → (Nat → Value) → World → Prop) (J : Array Bool → (Nat → Value) → World → Prop) (i : Nat) (o : Oper) (listed : Array Bool) (a' : Act) (W : World) (Q : Exit → Act → World → Prop) : Prop :=
  if Region.wanted o (yielded l.toArray a'.tmps) then
    o.wp P a' W (fun a2 W2 => ∃ v, a2 = a'.put o.dst v ∧ R W W2 ∧ (∀ s : Nat → Value, (o.dst.isSome = true → s i = v) → (∀ k, k ≠ i → s k = svb l n a' k) → J (listed.setIfInBounds i true) s W2) ∧ ∀ s : Nat → Value, (o.dst.isSome = true → s i = v) → (∀ k, k ≠ i → ancB l l.length i k = true → s k = sv l a' k) → Φ i s W2) Q
  else R W W ∧ (∀ s : Nat → Value, (o.dst.isSome = true → s i = undef) → (∀ k, k ≠ i → s k = svb l n a' k) → J (listed.setIfInBounds i true) s W) ∧ ∀ s : Nat → Value, (o.dst.isSome = true → s i = undef) → (∀ k, k ≠ i → ancB l l.length i k = true → s k = sv l a' k) → Φ i s W
/-- an operation that yields a value -/
theorem GoesK.value {n : Nat} {P : Program} {l : List Oper} {R : World → World → Prop} {Φ : Nat → (Nat → Value) → World → Prop} {J : Array Bool → (Nat → Value) → World → Prop} {i : Nat} {o : Oper} {listed : Array Bool} {a' : Act} {W W' : World} {Q : Exit → Act → World → Prop} (v : Value) (hg : o.guard = none) (hrun : (execOp a'.eval o).run P W = .ok (.value v) W') (hR : R W W')
    (hJ : ∀ s : Nat → Value, (o.dst.isSome = true → s i = v) → (∀ k, k ≠ i → s k = svb l n a' k) → J (listed.setIfInBounds i true) s W')
    (hΦ : ∀ s : Nat → Value, (o.dst.isSome = true → s i = v) → (∀ k, k ≠ i → ancB l l.length i k = true → s k = sv l a' k) → Φ i s W') : GoesK n P l R Φ J i o listed a' W Q := by
  unfold GoesK
  rw [if_pos (by simp [Region.wanted, hg])]
  unfold Oper.wp
  rw [hrun]
  exact ⟨v, rfl, hR, hJ, hΦ⟩
/-- a call -/
theorem GoesK.call {n : Nat} {P : Program} {l : List Oper} {R : World → World → Prop} {Φ : Nat → (Nat → Value) → World → Prop} {J : Array Bool → (Nat → Value) → World → Prop} {i : Nat} {o : Oper} {listed : Array Bool} {a' : Act} {W : World} {Q : Exit → Act → World → Prop} (f : FuncId) (args : Array Value) (hg : o.guard = none) (hrun : (execOp a'.eval o).run P W = .ok (.enter f args) W)
    (hc : Calls P f args W fun e W' => ∃ v, e = .returned v ∧ R W W' ∧ (∀ s : Nat → Value, (o.dst.isSome = true → s i = v) → (∀ k, k ≠ i → s k = svb l n a' k) → J (listed.setIfInBounds i true) s W') ∧ ∀ s : Nat → Value, (o.dst.isSome = true → s i = v) → (∀ k, k ≠ i → ancB l l.length i k = true → s k = sv l a' k) → Φ i s W') : GoesK n P l R Φ J i o listed a' W Q := by
  unfold GoesK
  rw [if_pos (by simp [Region.wanted, hg])]
  unfold Oper.wp
  rw [hrun]
  exact hc.mono fun e W' ⟨v, he, hR, hJ, hΦ⟩ => by subst he; exact ⟨v, rfl, hR, hJ, hΦ⟩

theorem wp_region_tailk {P : Program} {id : Nat} {Q : Exit → Act → World → Prop} {a : Act} {w : World} {l1 l2 : List Oper} (hm : P.follows .mixedOrders = true)
    (R : World → World → Prop) (hRr : ∀ W, R W W) (hR0 : ∀ W : World, R W { W with drawn := W.drawn + 1 }) (hRt : ∀ {A B C}, R A B → R B C → R A C)
    (Φ : Nat → (Nat → Value) → World → Prop) (J : Array Bool → (Nat → Value) → World → Prop) (hJ0 : ∀ s, J (Array.replicate (l1 ++ l2).length false) s { w with drawn := w.drawn + 1 }) (D : Nat → List Nat) (hst : ∀ j s s' W W', Φ j s W → (∀ k ∈ D j, s' k = s k) → R W W' → Φ j s' W')
    (hback : backB (l1 ++ l2) = true) (hun : uniqB (l1 ++ l2) = true) (hreads : readsB (l1 ++ l2) D = true) (N : Nat) (hN : a.tmps.size = N) (hinB : (((l1 ++ l2).filterMap (·.dst)).all fun d => decide (d < N)) = true)
    (htail : tailB (l1 ++ l2) l1.length = true)
    (hstep : ∀ (i : Nat) o, l1[i]? = some o → ∀ listed a' W, AtK l1.length (l1 ++ l2) R Φ J a w i o listed a' W → GoesK l1.length P (l1 ++ l2) R Φ J i o listed a' W Q)
    (hend : ∀ (vs : List Value) (listed : Array Bool) W, vs.length = l1.length → R w W → J listed (fun k => vs.getD k undef) W → (∀ j, j < l1.length → listed.getD j false = true) → (∀ j, j < l1.length → Φ j (fun k => vs.getD k undef) W) → wpList P (l1 ++ l2).toArray Q l2 (putAll l1 vs a) W) :
    (Code.region id (l1 ++ l2).toArray true).wp P Q a w := by
  have hin : ∀ d ∈ (l1 ++ l2).filterMap (·.dst), d < a.tmps.size := fun d hd => by rw [hN]; exact of_decide_eq_true (List.all_eq_true.1 hinB d hd)
  generalize hl : l1 ++ l2 = l at *
  have hl1 : ∀ j, j < l1.length → l1[j]? = l[j]? := fun j hj => by rw [← hl, List.getElem?_append_left hj]
  have hlen : l1.length ≤ l.length := by rw [← hl]; simp
  have hdrop : l2 = l.drop l1.length := by rw [← hl]; simp
  refine wp_region_any hm ?_
  have fin : ∀ (listed : Array Bool) (a' : Act) (W : World), listed.toList.count false = l.length - l1.length → (∀ j, l1.length ≤ j → listed.getD j false = false) → (∀ j, j < l1.length → listed.getD j false = true) → InvK l1.length l R Φ J a w listed a' W →
      wpAny P .any l.toArray Q (l.length - l1.length) listed a' W := by
    intro listed a' W hc hlo hall hI
    refine tail_any hback htail l2 l1.length listed a' W hdrop (Nat.le_refl _) hlen hI.lsize hall hlo ?_
    have e : a' = putAll l1 (l1.map fun o => match o.dst with | none => undef | some d => a'.tmps.getD d undef) a := by
      refine act_eq (by rw [putAll_size]; exact hI.size) (by rw [putAll_defers]; exact hI.defers) ?_
      intro d hlt
      by_cases hm : d ∈ l1.filterMap (·.dst)
      · obtain ⟨o, ho, hod⟩ := List.mem_filterMap.1 hm
        obtain ⟨j, hj⟩ := List.getElem?_of_mem ho
        have hjl : j < l1.length := (List.getElem?_eq_some_iff.1 hj).1
        rw [putAll_self l1 _ a j o d (by simp) hj hod (fun i p hp e => uniqB_spec hun (by rw [← hl1 i (List.getElem?_eq_some_iff.1 hp).1]; exact hp) (by rw [← hl1 j hjl]; exact hj) e hod) (by rw [← hI.size]; exact hlt)]
        rw [List.getD_eq_getElem?_getD, List.getElem?_map, hj]
        simp [hod]
      · rw [putAll_other l1 _ a d (fun o ho e => hm (List.mem_filterMap.2 ⟨o, ho, e⟩))]
        refine hI.old d (fun j oj hj hd => ?_)
        rcases Nat.lt_or_ge j l1.length with h | h
        · exact absurd (List.mem_filterMap.2 ⟨oj, List.mem_of_getElem? (by rw [hl1 j h]; exact hj), hd⟩) hm
        · exact hlo j h
    rw [e]
    have hsame : ∀ k, k < l1.length → (l1.map fun o => match o.dst with | none => undef | some d => a'.tmps.getD d undef).getD k undef = sv l a' k := by
      intro k hkl
      unfold sv
      rw [List.getD_eq_getElem?_getD, List.getElem?_map, hl1 k hkl]
      cases hk : l[k]? with
      | none => rfl
      | some o => cases hod : o.dst <;> simp [hod]
    have hfun : svb l l1.length a' = fun k => (l1.map fun o => match o.dst with | none => undef | some d => a'.tmps.getD d undef).getD k undef := by
      funext k
      unfold svb
      split
      · next h => exact (hsame k h).symm
      · next h => rw [List.getD_eq_getElem?_getD, List.getElem?_eq_none (by simp; omega)]; rfl
    refine hend _ listed W (by simp) hI.rel (hfun ▸ hI.jnv) hall (fun j hj => ?_)
    refine hst j _ _ W W (hI.new j (by omega) (hall j hj)) (fun k hk => ?_) (hRr W)
    have hkj : k ≤ j := by
      have h1 := List.all_eq_true.1 (List.all_eq_true.1 hreads j (List.mem_range.2 (by omega))) k hk
      simp only [Bool.or_eq_true, decide_eq_true_eq] at h1
      rcases h1 with h1 | h1
      · omega
      · exact Nat.le_of_lt (anc_back hback _ _ _ h1)
    have hkl : k < l1.length := by omega
    unfold sv
    rw [List.getD_eq_getElem?_getD, List.getElem?_map, hl1 k hkl]
    cases hk : l[k]? with
    | none => rfl
    | some o => cases hod : o.dst <;> simp [hod]
  have main : ∀ (fuel : Nat) (listed : Array Bool) (a' : Act) (W : World), listed.toList.count false = fuel → (∀ j, l1.length ≤ j → listed.getD j false = false) → InvK l1.length l R Φ J a w listed a' W → wpAny P .any l.toArray Q fuel listed a' W := by
    intro fuel
    have cnt : ∀ (listed : Array Bool), listed.size = l.length → (∀ j, l1.length ≤ j → listed.getD j false = false) → (∀ j, j < l1.length → listed.getD j false = true) → listed.toList.count false = l.length - l1.length := by
      intro listed hs hlo hall
      have e : listed.toList = List.replicate l1.length true ++ List.replicate (l.length - l1.length) false := by
        apply List.ext_getElem?
        intro i
        by_cases hi : i < listed.size
        · have hg : ∀ b, listed.getD i false = b → listed.toList[i]? = some b := fun b hb => by
            rw [getD_of_lt hi false true] at hb
            simp only [Array.getD_eq_getD_getElem?, Array.getElem?_eq_getElem hi, Option.getD_some] at hb
            simp [hi, hb]
          by_cases h : i < l1.length
          · rw [hg true (hall i h), List.getElem?_append_left (by simpa using h)]
            simp [h]
          · rw [hg false (hlo i (by omega)), List.getElem?_append_right (by simp; omega), List.getElem?_replicate, if_pos (by rw [List.length_replicate]; omega)]
        · rw [List.getElem?_eq_none (by simpa using hi), List.getElem?_eq_none (by simp; omega)]
      rw [e, List.count_append, List.count_replicate, List.count_replicate]
      simp
    induction fuel with
    | zero =>
      intro listed a' W hc hlo hI
      have hall' : ∀ i, i < l.length → listed.getD i false = true := by
        intro i hi
        have hi' : i < listed.size := by rw [hI.lsize]; exact hi
        cases hb : listed.getD i false with
        | true => rfl
        | false =>
          exfalso
          have : false ∈ listed.toList := by
            simp only [Array.getD_eq_getD_getElem?, Array.getElem?_eq_getElem hi', Option.getD_some] at hb
            rw [← hb]; simp
          have := List.count_pos_iff.2 this
          omega
      have hall : ∀ i, i < l1.length → listed.getD i false = true := fun i hi => hall' i (by omega)
      have hc2 := cnt listed hI.lsize hlo hall
      have := fin listed a' W hc2 hlo hall hI
      rw [show l.length - l1.length = 0 by omega] at this
      exact this
    | succ fuel ih =>
      intro listed a' W hc hlo hI
      by_cases hall : ∀ j, j < l1.length → listed.getD j false = true
      · have hc2 := cnt listed hI.lsize hlo hall
        have := fin listed a' W hc2 hlo hall hI
        rw [show l.length - l1.length = fuel + 1 by omega] at this
        exact this
      · obtain ⟨j0, hj0⟩ := Classical.not_forall.1 hall
        obtain ⟨hj0l, hj0f⟩ := Classical.not_imp.1 hj0
        refine ⟨fun h0 => ?_, fun i hi => ?_⟩
        · exact absurd (all_listed hback hI.lsize h0 j0 (by omega)) hj0f
        · obtain ⟨hl0, o, ho, hwait⟩ := mem_ready.1 hi
          have ho' : l[i]? = some o := by simpa using ho
          have hil : i < l.length := (List.getElem?_eq_some_iff.1 ho').1
          have hil' : i < listed.size := by rw [hI.lsize]; exact hil
          have hlf : listed.getD i false = false := by
            rw [getD_of_lt hil' false true]; exact hl0
          have hanc : ∀ n k, ancB l n i k = true → listed.getD k false = true := by
            intro n k hk
            cases n with
            | zero => simp [ancB] at hk
            | succ n =>
              unfold ancB at hk
              rw [ho'] at hk
              obtain ⟨e, he, hh⟩ := List.any_eq_true.1 hk
              simp only [Bool.and_eq_true, Bool.or_eq_true, decide_eq_true_eq] at hh
              have h1 := hwait e (by simpa using he) hh.1
              rcases hh.2 with h2 | h2
              · rw [← h2]; exact h1
              · exact hI.down.anc n e.on k h1 h2
          have hi1 : i < l1.length := by
            rcases Nat.lt_or_ge i l1.length with h | h
            · exact h
            · exact absurd (hanc _ _ (tailB_spec htail hil h (by omega : j0 < i))) hj0f
          have hAt : AtK l1.length l R Φ J a w i o listed a' W := ⟨⟨hI.rel, hI.size, hI.defers,
            fun d hd => hI.old d (fun j oj hj hdj => by
              have hji := hd j oj hj hdj
              cases hlj : listed.getD j false with
              | false => rfl
              | true =>
                have := hI.down.anc _ j i hlj hji
                rw [hlf] at this; cases this),
            fun j hj ha => hI.new j hj (hanc _ j ha)⟩, hI.jnv, hlf, hI.lsize, fun k hk => hanc _ k hk⟩
          have hG := hstep i o (by rw [hl1 i hi1]; exact ho') listed a' W hAt
          have hnext : ∀ v W2, R W W2 → (∀ s : Nat → Value, (o.dst.isSome = true → s i = v) → (∀ k, k ≠ i → s k = svb l l1.length a' k) → J (listed.setIfInBounds i true) s W2) → (∀ s : Nat → Value, (o.dst.isSome = true → s i = v) → (∀ k, k ≠ i → ancB l l.length i k = true → s k = sv l a' k) → Φ i s W2) → wpAny P .any l.toArray Q fuel (listed.setIfInBounds i true) (a'.put o.dst v) W2 := by
            intro v W2 hR hS hv
            have hin' : ∀ d ∈ l.filterMap (·.dst), d < a'.tmps.size := fun d hd => by rw [hI.size]; exact hin d hd
            have hset : ∀ j, j ≠ i → (listed.setIfInBounds i true).getD j false = listed.getD j false := fun j hj => getD_set_ne false (Ne.symm hj)
            refine ih _ _ _ ?_ (fun j hj => by rw [hset j (by omega)]; exact hlo j hj) ?_
            · have := count_set listed.toList i (by simp [hil']; simpa [Array.getD_eq_getD_getElem?, hil'] using hlf)
              rw [Array.toList_setIfInBounds]; omega
            · refine ⟨⟨hRt hI.rel hR, by simpa using hI.lsize, by rw [put_size]; exact hI.size, by rw [put_defers]; exact hI.defers, ?_, ?_, ?_⟩, ?_⟩
              · intro d hd
                have hne : o.dst ≠ some d := fun e => by
                  have := hd i o ho' e
                  simp [Array.getD_eq_getD_getElem?, hil'] at this
                rw [put_other hne]
                refine hI.old d (fun j oj hj hdj => ?_)
                by_cases hji : j = i
                · subst hji; exact hlf
                · have := hd j oj hj hdj
                  rwa [hset j hji] at this
              · intro j hj hlj
                by_cases hji : j = i
                · subst hji
                  exact hv _ (fun hd => sv_put_self ho' hin' hd) (fun k hk _ => sv_put_other hun ho' hk)
                · rw [hset j hji] at hlj
                  refine hst j _ _ _ _ (hI.new j hj hlj) (fun k hk => sv_put_other hun ho' ?_) hR
                  rintro rfl
                  have h1 := List.all_eq_true.1 (List.all_eq_true.1 hreads j (List.mem_range.2 hj)) k hk
                  simp only [Bool.or_eq_true, decide_eq_true_eq] at h1
                  rcases h1 with h1 | h1
                  · exact hji h1.symm
                  · have := hI.down.anc _ j k hlj h1
                    rw [hlf] at this; cases this
              · intro j oj hj hlj e he hb
                by_cases hji : j = i
                · subst hji
                  rw [ho'] at hj; cases hj
                  exact getD_set_true (hwait e he hb)
                · rw [hset j hji] at hlj
                  exact getD_set_true (hI.down j oj hj hlj e he hb)
              · refine hS _ (fun hd => ?_) (fun k hk => ?_)
                · unfold svb; rw [if_pos hi1]; exact sv_put_self ho' hin' hd
                · unfold svb
                  split
                  · exact sv_put_other hun ho' hk
                  · rfl
          unfold wpOp
          rw [show l.toArray[i]? = some o by simpa using ho']
          unfold GoesK at hG
          by_cases hwant : Region.wanted o (yielded l.toArray a'.tmps) = true
          · rw [if_pos hwant] at hG
            simp only [hwant, if_true]
            exact .inl (Oper.wp_mono (fun a2 W2 ⟨v, e, hR, hS, hv⟩ => by rw [e]; exact hnext v W2 hR hS hv) hG)
          · rw [if_neg hwant] at hG
            simp only [hwant]
            exact hnext undef W hG.1 hG.2.1 hG.2.2
  have h0 := main l.length (Array.replicate l.length false) a { w with drawn := w.drawn + 1 } (by simp) (fun j _ => getD_false _ _)
    ⟨⟨hR0 w, by simp, rfl, rfl, fun _ _ => rfl, (fun j _ h => by rw [getD_false] at h; cases h), (fun j oj _ h => by rw [getD_false] at h; cases h)⟩, hJ0 _⟩
  simpa using h0

end Go.Proofs.YtmbkjccckmlacaaDoor

