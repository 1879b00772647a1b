/- Lemmas and walks for the statements of this seat, part 1, merged from smaller texts: Frame relations between two worlds of the model, used by all the walks of this seat: 'Turn k o w w'' (block k now holds o, every other old block is as it was).; Regions that draw their order and whose calls leave old memory as it was; strings turned into slices of bytes.; Expressions: the plain tree, and what it is in memory.; Names: the reference's IsName, expr's isName.; Names: expr's isName.; Maps with int keys: a store of a new key, and a look-up, at entries that are known.; The walk's law for a store of a new key; where a map lies.; The makers of operators: number, divide, truth.; The operators with two arguments: the map that operators() makes.; operators(): the map.; What the operators compute.; Bindings: plain, and in memory.; expr's bound, the reference's CheckBindings.; The reference's CheckBindings.; Bindings: the look-up of a name.; The reference's find.; What the operators compute: comparisons, times, the makers' closures.; What the functions of the operators return.; A region that draws its order, whose operations may make memory: each operation's result is described by a predicate that later growth of the memory keeps. -/
import Derived.Below
import Derived.OneCell
import Derived.WalkSmall
import Derived.WalkKit
import Derived.Lib.Hide
import Derived.WalkSpells
import Derived.Deep.QuietTactic
import Derived.BigQuiet
import Derived.Laws.IdiomStrings
import Derived.OwnWalk
import Derived.Test.YtmokejjndkibhaaGreatDoorRows
import Derived.Laws.RangeAny
import Derived.Laws.RangeString
import Derived.Maps.Own
import Derived.Maps.OwnIn
import Derived.Carry
import Derived.WalkLawsBesides

namespace Go.Proofs.YtmokejjndkibhaaGreatDoor
open Go.RowKit

/-- Block k holds o in w'; every other block that was there is as it was. -/
structure Turn (k : Nat) (o : Obj) (w w' : World) : Prop where
  os : w'.os = w.os
  tape : w'.tape = w.tape
  output : w'.output = w.output
  size : w.heap.size ≤ w'.heap.size
  here : w'.heap[k]? = some o
  other : ∀ j, j < w.heap.size → j ≠ k → w'.heap[j]? = w.heap[j]?

theorem Turn.refl {k : Nat} {o : Obj} {w : World} (h : w.heap[k]? = some o) : Turn k o w w := ⟨rfl, rfl, rfl, Nat.le_refl _, h, fun _ _ _ => rfl⟩
theorem Turn.trans {k : Nat} {o o' : Obj} {a b c : World} (h : Turn k o a b) (g : Turn k o' b c) : Turn k o' a c :=
  ⟨g.os.trans h.os, g.tape.trans h.tape, g.output.trans h.output, Nat.le_trans h.size g.size, g.here, fun j hj hk => (g.other j (Nat.lt_of_lt_of_le hj h.size) hk).trans (h.other j hj hk)⟩
theorem Turn.lt {k : Nat} {o : Obj} {w w' : World} (h : Turn k o w w') : k < w'.heap.size := lt_of_block h.here
theorem Turn.below {k B : Nat} {o : Obj} {w w' : World} (h : Turn k o w w') (hk : B ≤ k) (hB : B ≤ w.heap.size) : Below B w w' :=
  ⟨h.os, h.tape, h.output, h.size, fun j hj => h.other j (by omega) (by omega)⟩
theorem Turn.drew {k : Nat} {o : Obj} {a w : World} (h : Turn k o a w) : Turn k o a w.drew := ⟨h.os, h.tape, h.output, h.size, h.here, h.other⟩
theorem Turn.drewN {k : Nat} {o : Obj} {a w : World} (h : Turn k o a w) (n : Nat) : Turn k o a (w.drewN n) := ⟨h.os, h.tape, h.output, h.size, h.here, h.other⟩
theorem Turn.alloc {k : Nat} {o : Obj} {a w : World} (h : Turn k o a w) (x : Obj) : Turn k o a (w.alloc x) :=
  ⟨h.os, h.tape, h.output, by have := h.size; simp; omega, (Below.heap_alloc _ _ _ h.lt).trans h.here, fun j hj hk => (Below.heap_alloc _ _ _ (Nat.lt_of_lt_of_le hj h.size)).trans (h.other j hj hk)⟩
/-- a store into block k -/
theorem Turn.setCell {k i : Nat} {c : Array Value} {t : TypeId} {f : Nat × Nat} {a w : World} (h : Turn k (.cells c t f) a w) (u : Value) : Turn k (.cells (c.setIfInBounds i u) t f) a (w.setCell ⟨k, i, none⟩ u) := by
  refine ⟨h.os, h.tape, h.output, by have := h.size; simp [World.setCell]; omega, ?_, fun j hj hk => ?_⟩
  · simp only [World.setCell, Array.getElem?_modify, if_true, h.here]
    rfl
  · exact (Below.heap_setCell _ _ _ _ hk).trans (h.other j hj hk)

theorem cell_of {w : World} {k i : Nat} {c : Array Value} {t : TypeId} {f : Nat × Nat} {v : Value} (h : w.heap[k]? = some (.cells c t f)) (hv : c[i]? = some v) : w.cell? ⟨k, i, none⟩ = some v := by
  simp [World.cell?, h, hv]
theorem free_of {w : World} {k i : Nat} {c : Array Value} {t : TypeId} (h : w.heap[k]? = some (.cells c t (0, 0))) : w.frozen? ⟨k, i, none⟩ = false := by
  simp [World.frozen?, h]
theorem alloc_here (w : World) (o : Obj) : (w.alloc o).heap[w.heap.size]? = some o := by show (w.heap.push o)[w.heap.size]? = _; simp

/-- a string by the list of its bytes -/
def sB (l : List UInt8) : ByteArray := ⟨l.toArray⟩
abbrev sV (l : List UInt8) : Value := .string (sB l)
theorem sB_of (s : ByteArray) : ∃ l, s = sB l := ⟨s.data.toList, rfl⟩
theorem sB_size (l : List UInt8) : (sB l).size = l.length := by simp [sB, ByteArray.size]
theorem sB_app (a b : List UInt8) : sB a ++ sB b = sB (a ++ b) := by
  apply ByteArray.ext
  apply Array.toList_inj.1
  simp [sB]
theorem sB_get (l : List UInt8) (i : Nat) (h : i < (sB l).size) : (sB l)[i] = l[i]'(by rw [sB_size] at h; exact h) := rfl
theorem sB_extract (l : List UInt8) (a b : Nat) : (sB l).extract a b = sB ((l.take b).drop a) := by
  apply ByteArray.ext
  apply Array.toList_inj.1
  simp [sB, List.extract, List.drop_take]
theorem sB_data (l : List UInt8) : (sB l).data.toList = l := by simp [sB]
theorem sB_toList (l : List UInt8) : (sB l).toList = l := by rw [ByteArray.toList_eq, sB_data]
theorem sB_nil : (ByteArray.mk #[]) = sB [] := rfl
attribute [go_sem] sB_size sB_app sB_get sB_data sB_toList

/-- a call that leaves old memory as it was -/
def Gives (P : Program) (f : FuncId) (args : Array Value) (w : World) (v : Value) : Prop :=
  Calls P f args w fun e w' => e = .returned v ∧ Below w.heap.size w w'

theorem Gives.mono {P : Program} {f : FuncId} {args : Array Value} {w : World} {v : Value} (h : Gives P f args w v) {R : Ending → World → Prop}
    (hr : ∀ w', Below w.heap.size w w' → R (.returned v) w') : Calls P f args w R :=
  Calls.mono h (fun e w' h => by obtain ⟨rfl, hb⟩ := h; exact hr w' hb)

theorem wrapi {x : Int} (h1 : -9223372036854775808 ≤ x) (h2 : x ≤ 9223372036854775807) : IntKind.i64.wrap x = x := IntWalk.i64_in _ ⟨h1, h2⟩
end Go.Proofs.YtmokejjndkibhaaGreatDoor

namespace Go.Proofs.YtmokejjndkibhaaGreatDoor
open Go.RowKit
set_option linter.unusedVariables false

/-- W has all that w had -/
def Ext (w W : World) : Prop := Below w.heap.size w W
theorem Ext.below {w W : World} (h : Ext w W) : Below w.heap.size w W := h
theorem Ext.call {P : Program} {f : FuncId} {args : Array Value} {w0 W : World} {v : Value} (h : Gives P f args W v) (hW : Ext w0 W) : Calls P f args W fun e w'' => e = .returned v ∧ Ext w0 w'' :=
  h.mono fun w' hb => ⟨rfl, Below.trans hW (hb.mono hW.size)⟩

theorem Ext.undrewN {w W : World} {n : Nat} (h : Ext (w.drewN n) W) : Ext w W := ⟨h.os, h.tape, h.output, h.size, h.block⟩
theorem Ext.drewN' {w W : World} {n : Nat} (h : Ext w W) : Ext w (W.drewN n) := ⟨h.os, h.tape, h.output, h.size, h.block⟩
theorem Ext.trans {a b c : World} (h : Ext a b) (g : Ext b c) : Ext a c := Below.trans h (g.below.mono h.size)

/-- a world that has all that w had: the class of the worlds of a region -/
structure Up (w : World) where
  W : World
  ext : Ext w W
instance (w : World) : Nonempty (Up w) := ⟨⟨w, Below.refl _ _⟩⟩
theorem Up.call {P : Program} {f : FuncId} {args : Array Value} {w : World} {v : Value} {U : Up w} (h : Gives P f args U.W v) : Calls P f args U.W fun e w'' => e = .returned v ∧ ∃ U' : Up w, w'' = U'.W :=
  h.mono fun w' hb => ⟨rfl, ⟨w', Below.trans U.ext (hb.mono U.ext.size)⟩, rfl⟩
theorem Up.cell {w : World} {a : Addr} {v : Value} (h : w.cell? a = some v) (U : Up w) : U.W.cell? a = some v := by
  have hb : a.block < w.heap.size := by
    unfold World.cell? at h
    split at h
    · rename_i hx; exact lt_of_block hx
    · cases h
  exact (U.ext.below.cell hb).trans h
theorem wp_region_up {P : Program} {id : Nat} {Q : Exit → Act → World → Prop} {a : Act} {w : World} {l : List Oper} (hm : P.follows .mixedOrders = true) (hB : Region.lexB .any l.toArray = true)
    (h : wpQuiet P l.toArray (fun W => ∃ U : Up w, W = U.W) (fun a' => ∀ w', (∃ U : Up w, w' = U.W) → Q .normal a' w') l a) : (Code.region id l.toArray true).wp P Q a w :=
  wp_region_quiet (C := fun W => ∃ U : Up w, W = U.W) hm hB ⟨⟨{ w with drawn := w.drawn + 1 }, ⟨rfl, rfl, rfl, Nat.le_refl _, fun _ _ => rfl⟩⟩, rfl⟩ (by simpa using h)

/-- the cells of block g begin with the bytes l, and may be written -/
def BytesAt (w : World) (g : Nat) (l : List UInt8) : Prop := ∀ i (h : i < l.length), w.cell? ⟨g, i, none⟩ = some (.int .u8 (l[i].toNat : Int)) ∧ w.frozen? ⟨g, i, none⟩ = false

theorem BytesAt.set {w : World} {g : Nat} {l : List UInt8} (h : BytesAt w g l) (i : Nat) (b : UInt8) (hi : i < l.length) : BytesAt (w.setCell ⟨g, i, none⟩ (.int .u8 (b.toNat : Int))) g (l.set i b) := by
  intro j hj
  have hj' : j < l.length := by simpa using hj
  obtain ⟨h1, h2⟩ := h j hj'
  refine ⟨?_, by rw [World.frozen?_setCell]; exact h2⟩
  by_cases e : i = j
  · subst e
    rw [List.getElem_set_self]
    exact World.cell?_setCell_same' _ _ _ (by rw [h1]; rfl)
  · rw [List.getElem_set_ne e]
    rw [World.cell?_setCell_other w ⟨g, i, none⟩ ⟨g, j, none⟩ _ (by intro h0; apply e; exact congrArg Addr.off h0)]
    exact h1

theorem BytesAt.ext {w W : World} {g : Nat} {l : List UInt8} (h : BytesAt w g l) (hg : g < w.heap.size) (hW : Ext w W) : BytesAt W g l := fun i hi =>
  ⟨(hW.below.cell (p := ⟨g, i, none⟩) hg).trans (h i hi).1, (hW.below.frozen (p := ⟨g, i, none⟩) hg).trans (h i hi).2⟩

end Go.Proofs.YtmokejjndkibhaaGreatDoor

namespace Go.Proofs.YtmokejjndkibhaaGreatDoor
open Go.RowKit
set_option linter.unusedVariables false
set_option linter.unusedSimpArgs false

inductive Ex where
  | mk (kind op : Int) (name : List UInt8) (value : Int) (args : List Ex)
namespace Ex
def kind : Ex → Int | .mk k _ _ _ _ => k
def op : Ex → Int | .mk _ o _ _ _ => o
def name : Ex → List UInt8 | .mk _ _ n _ _ => n
def value : Ex → Int | .mk _ _ _ v _ => v
def args : Ex → List Ex | .mk _ _ _ _ ts => ts
mutual
def size : Ex → Nat
  | .mk _ _ _ _ ts => 1 + sizes ts
def sizes : List Ex → Nat
  | [] => 0
  | e :: es => e.size + sizes es
end
mutual
def height : Ex → Nat
  | .mk _ _ _ _ ts => 1 + heights ts
def heights : List Ex → Nat
  | [] => 0
  | e :: es => max e.height (heights es)
end
theorem size_pos (e : Ex) : 1 ≤ e.size := by cases e; simp only [size]; omega
theorem sizes_snoc (es : List Ex) (e : Ex) : sizes (es ++ [e]) = sizes es + e.size := by
  induction es with
  | nil => simp [sizes]
  | cons x es ih => simp only [List.cons_append, sizes, ih]; omega
theorem heights_snoc (es : List Ex) (e : Ex) : heights (es ++ [e]) = max (heights es) e.height := by
  induction es with
  | nil => simp [heights]
  | cons x es ih => simp only [List.cons_append, heights, ih]; omega
theorem sizes_take (es : List Ex) (j : Nat) (h : j < es.length) : sizes (es.take (j + 1)) = sizes (es.take j) + (es[j]).size := by
  rw [List.take_succ_eq_append_getElem h, sizes_snoc]
theorem heights_take (es : List Ex) (j : Nat) (h : j < es.length) : heights (es.take (j + 1)) = max (heights (es.take j)) (es[j]).height := by
  rw [List.take_succ_eq_append_getElem h, heights_snoc]
theorem sizes_mono (es : List Ex) (j : Nat) : sizes (es.take j) ≤ sizes es := by
  induction es generalizing j with
  | nil => simp
  | cons x es ih => cases j with
    | zero => simp [sizes]
    | succ j => simp only [List.take_succ_cons, sizes]; have := ih j; omega
theorem size_get (es : List Ex) (j : Nat) (h : j < es.length) : (es[j]).size ≤ sizes es := by
  have := sizes_take es j h; have := sizes_mono es (j + 1); omega
theorem size_args (e : Ex) : e.size = 1 + sizes e.args := by cases e; rfl
mutual
theorem height_le : ∀ e : Ex, e.height ≤ e.size
  | .mk _ _ _ _ ts => by simp only [height, size]; have := heights_le ts; omega
theorem heights_le : ∀ es : List Ex, heights es ≤ sizes es
  | [] => Nat.le_refl _
  | e :: es => by simp only [heights, sizes]; have := height_le e; have := heights_le es; omega
end
def wf (x : Int) : Prop := -9223372036854775808 ≤ x ∧ x ≤ 9223372036854775807
/-- the cells of an expression, at an address: kind, operator, name, value, arguments -/
def cells (w : World) (b o : Nat) (e : Ex) (p : Option Addr) (c : Nat) : Prop :=
  w.cell? ⟨b, o, none⟩ = some (.int .i64 e.kind) ∧ w.cell? ⟨b, o + 1, none⟩ = some (.int .i64 e.op) ∧ w.cell? ⟨b, o + 2, none⟩ = some (sV e.name) ∧
  w.cell? ⟨b, o + 3, none⟩ = some (.int .i64 e.value) ∧ w.cell? ⟨b, o + 4, none⟩ = some (.slice p e.args.length c)
/-- numbers that fit, lengths that a machine has -/
def fits (e : Ex) : Prop := wf e.kind ∧ wf e.op ∧ e.name.length ≤ 140737488355328 ∧ wf e.value ∧ e.args.length ≤ 2199023255488
mutual
/-- the arguments of e lie at p -/
def At (w : World) (p : Option Addr) : Ex → Prop
  | .mk k o n x ts => fits (.mk k o n x ts) ∧ AtL w p 0 ts
/-- these expressions lie at p, from the i-th on -/
def AtL (w : World) (p : Option Addr) (i : Nat) : List Ex → Prop
  | [] => True
  | e :: es => (∃ b o q c, p = some ⟨b, o, none⟩ ∧ cells w b (o + i * 5) e q c ∧ At w q e) ∧ AtL w p (i + 1) es
end
theorem At.fit {w : World} {p : Option Addr} {e : Ex} (h : At w p e) : fits e := by cases e; exact h.1
theorem At.row {w : World} {p : Option Addr} {e : Ex} (h : At w p e) : AtL w p 0 e.args := by cases e; exact h.2
theorem AtL.get {w : World} {p : Option Addr} {es : List Ex} : ∀ {i : Nat}, AtL w p i es → ∀ j (h : j < es.length), ∃ b o q c, p = some ⟨b, o, none⟩ ∧ cells w b (o + (i + j) * 5) es[j] q c ∧ At w q es[j] := by
  induction es with
  | nil => intro i h j hj; simp at hj
  | cons e es ih =>
    intro i h j hj
    obtain ⟨h1, h2⟩ := h
    cases j with
    | zero => exact h1
    | succ j =>
      obtain ⟨b, o, q, c, e1, e2, e3⟩ := ih h2 j (by simpa using hj)
      exact ⟨b, o, q, c, e1, by rw [show i + (j + 1) = i + 1 + j by omega]; exact e2, e3⟩
theorem At.get {w : World} {p : Option Addr} {k o : Int} {n : List UInt8} {x : Int} {ts : List Ex} (h : At w p (.mk k o n x ts)) (j : Nat) (hj : j < ts.length) : ∃ b o q c, p = some ⟨b, o, none⟩ ∧ cells w b (o + j * 5) (ts[j]) q c ∧ At w q (ts[j]) := by
  have := AtL.get h.2 j hj
  simpa using this
theorem cell_lt' {w : World} {a : Addr} {v : Value} (h : w.cell? a = some v) : a.block < w.heap.size := by
  unfold World.cell? at h
  split at h
  · rename_i hx; exact lt_of_block hx
  · cases h
theorem cells.below {w W : World} {b o : Nat} {e : Ex} {p : Option Addr} {c : Nat} (h : cells w b o e p c) (hb : Below w.heap.size w W) : cells W b o e p c := by
  obtain ⟨h0, h1, h2, h3, h4⟩ := h
  have hl := cell_lt' h0
  exact ⟨(hb.cell (p := ⟨b, o, none⟩) hl).trans h0, (hb.cell (p := ⟨b, o + 1, none⟩) hl).trans h1, (hb.cell (p := ⟨b, o + 2, none⟩) hl).trans h2, (hb.cell (p := ⟨b, o + 3, none⟩) hl).trans h3, (hb.cell (p := ⟨b, o + 4, none⟩) hl).trans h4⟩
mutual
theorem At.below {w W : World} (hb : Below w.heap.size w W) : ∀ {p : Option Addr} {e : Ex}, At w p e → At W p e
  | _, .mk _ _ _ _ _, h => ⟨h.1, AtL.below hb h.2⟩
theorem AtL.below {w W : World} (hb : Below w.heap.size w W) : ∀ {p : Option Addr} {i : Nat} {es : List Ex}, AtL w p i es → AtL W p i es
  | _, _, [], _ => trivial
  | _, _, _ :: _, ⟨⟨b, o, q, c, e1, e2, e3⟩, h2⟩ => ⟨⟨b, o, q, c, e1, e2.below hb, At.below hb e3⟩, AtL.below hb h2⟩
end
/-- the value of an expression whose arguments lie at p -/
def val (e : Ex) (p : Option Addr) (c : Nat) : Value := .agg #[.int .i64 e.kind, .int .i64 e.op, sV e.name, .int .i64 e.value, .slice p e.args.length c]
end Ex
/-- a box of five values, laid ahead of wr -/
theorem Ext.box {w wr : World} {x0 x1 x2 x3 x4 : Value} {t : TypeId} (h : Ext (w.alloc (.cells #[x0, x1, x2, x3, x4] t)) wr) :
    wr.cell? ⟨w.heap.size, 0, none⟩ = some x0 ∧ wr.cell? ⟨w.heap.size, 1, none⟩ = some x1 ∧ wr.cell? ⟨w.heap.size, 2, none⟩ = some x2 ∧ wr.cell? ⟨w.heap.size, 3, none⟩ = some x3 ∧ wr.cell? ⟨w.heap.size, 4, none⟩ = some x4 ∧ Ext w wr := by
  have hb : wr.heap[w.heap.size]? = some (.cells #[x0, x1, x2, x3, x4] t (0, 0)) := (h.below.block _ (by simp)).trans (alloc_here _ _)
  exact ⟨cell_of hb rfl, cell_of hb rfl, cell_of hb rfl, cell_of hb rfl, cell_of hb rfl, Ext.trans ((Below.refl w.heap.size w).alloc (Nat.le_refl _) _) h⟩

end Go.Proofs.YtmokejjndkibhaaGreatDoor

namespace Go.Proofs.YtmokejjndkibhaaGreatDoor
open Go.RowKit
set_option linter.unusedVariables false
set_option linter.unusedSimpArgs false
open Ex

def letter (c : UInt8) : Bool := decide (97 ≤ c.toNat ∧ c.toNat ≤ 122)
def other (c : UInt8) : Bool := decide (48 ≤ c.toNat ∧ c.toNat ≤ 57) || decide (c.toNat = 95)
def okAt (i : Nat) (c : UInt8) : Bool := letter c || (decide (i ≠ 0) && other c)
/-- the first n bytes of l can begin a name -/
def okTo (l : List UInt8) : Nat → Bool
  | 0 => true
  | n + 1 => okTo l n && okAt n (l.getD n 0)
/-- a name: a letter, and letters, digits and underlines; 1 to 30 bytes -/
def isNm (l : List UInt8) : Bool := decide (1 ≤ l.length ∧ l.length ≤ 30) && okTo l l.length
theorem okTo_no (l : List UInt8) (j : Nat) (h : okAt j (l.getD j 0) = false) : ∀ n, j < n → okTo l n = false
  | 0, hj => by omega
  | n + 1, hj => by
    simp only [okTo]
    by_cases e : j = n
    · subst e; rw [h]; simp
    · rw [okTo_no l j h n (by omega)]; rfl
theorem isNm_no (l : List UInt8) (j : Nat) (hj : j < l.length) (h : okAt j l[j] = false) : isNm l = false := by
  unfold isNm
  rw [okTo_no l j (by rw [List.getD_eq_getElem?_getD, List.getElem?_eq_getElem hj]; exact h) _ hj]; simp
theorem okTo_yes (l : List UInt8) (j : Nat) (hj : j < l.length) (h0 : okTo l j = true) (h : okAt j l[j] = true) : okTo l (j + 1) = true := by
  simp only [okTo]
  rw [h0, List.getD_eq_getElem?_getD, List.getElem?_eq_getElem hj]; simpa using h
theorem isNm_end (l : List UInt8) (h : okTo l l.length = true) : isNm l = decide (1 ≤ l.length ∧ l.length ≤ 30) := by unfold isNm; rw [h]; simp

theorem okAt_no {j : Nat} {x : UInt8} (h1 : ¬ (97 ≤ (x.toNat : Int) ∧ (x.toNat : Int) ≤ 122)) (h2 : j = 0 ∨ ¬ ((48 ≤ (x.toNat : Int) ∧ (x.toNat : Int) ≤ 57) ∨ (x.toNat : Int) = 95)) : okAt j x = false := by
  simp [okAt, letter, other]; omega
theorem okAt_let {j : Nat} {x : UInt8} (h1 : 97 ≤ (x.toNat : Int) ∧ (x.toNat : Int) ≤ 122) : okAt j x = true := by
  simp [okAt, letter, other]; omega
theorem okAt_oth {j : Nat} {x : UInt8} (h0 : j ≠ 0) (h1 : (48 ≤ (x.toNat : Int) ∧ (x.toNat : Int) ≤ 57) ∨ (x.toNat : Int) = 95) : okAt j x = true := by
  simp [okAt, letter, other]; omega

set_option maxHeartbeats 2000000 in
theorem IsName_any (l : List UInt8) (w : World) : Gives Tryz.prog 134 #[sV l] w (.bool (isNm l)) := by
  unfold Gives
  by_cases hl : 1 ≤ l.length ∧ l.length ≤ 30
  · obtain ⟨hl1, hl2⟩ := hl
    have hne1 : ¬ l = [] := by rintro rfl; simp at hl1
    have hne2 : l.isEmpty = false := by simpa using hne1
    have HY := Lib.hid (okTo_yes l)
    have HN := Lib.hid (isNm_no l)
    have HE := Lib.hid (isNm_end l)
    generalize isNm l = r at *
    go_enter Tryz.func134, Tryz.ntmps134
    go_wp2
    go_loop [3] (fun i => ∃ j : Nat, j ≤ l.length ∧ i = .int .i64 (j : Int) ∧ okTo l j = true) (fun i => l.length - (intOf i).toNat)
    case atStart => exact ⟨0, Nat.zero_le _, rfl, rfl⟩
    case round =>
      obtain ⟨j, hj, rfl, hk⟩ := hrel
      have HK := Lib.hid hk
      clear hk
      by_cases hlt : j < l.length
      · have hy := Lib.hid (HY.out j hlt HK.out)
        have hn := Lib.hid (HN.out j hlt)
        have hc := (l[j]).toNat_lt
        by_cases hA : 97 ≤ ((l[j]).toNat : Int)
        · by_cases hB : ((l[j]).toNat : Int) ≤ 122
          · have hz := Lib.hid (hy.out (okAt_let ⟨hA, hB⟩))
            go_wp2
            go_round
            case rel => exact ⟨j + 1, by omega, by go_num, hz.out⟩
            case measure => simp [intOf]; omega
          · have hz := Lib.hid (hn.out (okAt_no (by omega) (.inr (by omega))))
            have h95 : (((l[j]).toNat : Int) == 95) = false := by rw [beq_eq_false_iff_ne]; omega
            by_cases h0 : j = 0
            · subst h0
              go_wp2
              go_ret
              exact ⟨by rw [hz.out]; rfl, Below.refl _ _⟩
            · have h0' : ¬ (j : Int) = 0 := by omega
              have h57 : ¬ ((l[j]).toNat : Int) ≤ 57 := by omega
              go_wp2
              all_goals (go_ret; exact ⟨by rw [hz.out]; rfl, Below.refl _ _⟩)
        · by_cases h0 : j = 0
          · have hz := Lib.hid (hn.out (okAt_no (by omega) (.inl h0)))
            subst h0
            go_wp2
            all_goals (go_ret; exact ⟨by rw [hz.out]; rfl, Below.refl _ _⟩)
          · have h0' : ¬ (j : Int) = 0 := by omega
            by_cases hC : ((l[j]).toNat : Int) = 95
            · have hz := Lib.hid (hy.out (okAt_oth h0 (.inr hC)))
              go_wp2
              go_round
              case rel => exact ⟨j + 1, by omega, by go_num, hz.out⟩
              case measure => simp [intOf]; omega
            · have h95 : (((l[j]).toNat : Int) == 95) = false := by rw [beq_eq_false_iff_ne]; omega
              by_cases hD : 48 ≤ ((l[j]).toNat : Int)
              · by_cases hE : ((l[j]).toNat : Int) ≤ 57
                · have hz := Lib.hid (hy.out (okAt_oth h0 (.inl ⟨hD, hE⟩)))
                  go_wp2
                  go_round
                  case rel => exact ⟨j + 1, by omega, by go_num, hz.out⟩
                  case measure => simp [intOf]; omega
                · have hz := Lib.hid (hn.out (okAt_no (by omega) (.inr (by omega))))
                  go_wp2
                  go_ret
                  exact ⟨by rw [hz.out]; rfl, Below.refl _ _⟩
              · have hz := Lib.hid (hn.out (okAt_no (by omega) (.inr (by omega))))
                go_wp2
                go_ret
                exact ⟨by rw [hz.out]; rfl, Below.refl _ _⟩
      · obtain rfl : j = l.length := by omega
        have hz := Lib.hid (HE.out HK.out)
        go_wp2
        go_ret
        exact ⟨by rw [hz.out]; simp [hl1, hl2], Below.refl _ _⟩
  · have hz := Lib.hid (show isNm l = false by unfold isNm; simp [hl])
    generalize isNm l = r at *
    by_cases h1 : l = []
    · subst h1
      go_enter Tryz.func134, Tryz.ntmps134
      go_wp2
      go_ret
      exact ⟨by rw [hz.out]; rfl, Below.refl _ _⟩
    · have hne2 : l.isEmpty = false := by simpa using h1
      have h2 : 30 < l.length := by have := List.length_pos_iff.2 h1; omega
      go_enter Tryz.func134, Tryz.ntmps134
      go_wp2
      go_ret
      exact ⟨by rw [hz.out]; rfl, Below.refl _ _⟩

end Go.Proofs.YtmokejjndkibhaaGreatDoor

namespace Go.Proofs.YtmokejjndkibhaaGreatDoor
open Go.RowKit
set_option linter.unusedVariables false
set_option linter.unusedSimpArgs false
open Ex

theorem letter_any (r : Int) (b : Bool) (hb : b = decide (97 ≤ r ∧ r ≤ 122)) (w : World) : Calls Tryz.prog 133 #[.int .i32 r] w fun e w' => e = .returned (.bool b) ∧ w' = w := by
  by_cases h1 : 97 ≤ r
  · by_cases h2 : r ≤ 122
    · have hz := Lib.hid (show b = true by rw [hb]; simp [h1, h2])
      clear hb
      go_enter Tryz.func133, Tryz.ntmps133
      go_wp2
      go_ret
      exact ⟨by rw [hz.out]; rfl, rfl⟩
    · have hz := Lib.hid (show b = false by rw [hb]; simp [h2])
      clear hb
      go_enter Tryz.func133, Tryz.ntmps133
      go_wp2
      go_ret
      exact ⟨by rw [hz.out]; rfl, rfl⟩
  · have hz := Lib.hid (show b = false by rw [hb]; simp [h1])
    clear hb
    go_enter Tryz.func133, Tryz.ntmps133
    go_wp2
    go_ret
    exact ⟨by rw [hz.out]; rfl, rfl⟩
theorem iter_ext (w : World) (s : ByteArray) (p : Nat) : Ext w (w.iter s p) := (Below.refl _ w).alloc (Nat.le_refl _) _

set_option maxRecDepth 100000 in
set_option maxHeartbeats 2000000 in
theorem isName_any (l : List UInt8) (w : World) (hl : l.length ≤ 140737488355328) : Gives Tryz.prog 93 #[sV l] w (.bool (isNm l)) := by
  unfold Gives
  have HY := Lib.hid (okTo_yes l)
  have HN := Lib.hid (isNm_no l)
  have HE := Lib.hid (isNm_end l)
  generalize isNm l = r at *
  go_enter Tryz.func93, Tryz.ntmps93
  go_wp2
  go_loopw [2] (fun _ wr => ∃ j : Nat, j ≤ l.length ∧ wr = w.iter (sB l) j ∧ okTo l j = true) (fun _ wr => l.length - wr.iterPos w.heap.size)
  case atStart => exact ⟨0, Nat.zero_le _, rfl, rfl⟩
  case round =>
    obtain ⟨j, hj, rfl, hk⟩ := hrel
    have HK := Lib.hid hk
    clear hk
    by_cases hlt : j < l.length
    · have hy := Lib.hid (HY.out j hlt HK.out)
      have hn := Lib.hid (HN.out j hlt)
      have hc := (l[j]).toNat_lt
      have hsz : j < (sB l).size := by rw [sB_size]; exact hlt
      by_cases hascii : (l[j]).toNat < 128
      · have hnx : ∀ ty, (Instr.next (.pointer (some ⟨w.heap.size, 0, none⟩)) true ty).run Tryz.prog (w.iter (sB l) j) = .ok (.tuple #[.bool true, .int .i64 j, .int .i32 ((l[j]).toNat : Int)]) (w.iter (sB l) (j + 1)) := fun ty => run_next_ascii w (sB l) j ty hsz hascii
        by_cases hA : 97 ≤ ((l[j]).toNat : Int) ∧ ((l[j]).toNat : Int) ≤ 122
        · have hz := Lib.hid (hy.out (okAt_let hA))
          have L := fun W => letter_any ((l[j]).toNat : Int) true (by simp; omega) W
          go_wp2_with fail
          refine (L _).mono ?_
          rintro e w2 ⟨rfl, rfl⟩
          go_wp2
          go_roundw
          case rel => exact ⟨j + 1, by omega, rfl, hz.out⟩
          case measure => simp; omega
        · have L := fun W => letter_any ((l[j]).toNat : Int) false (by simp; omega) W
          by_cases h0 : j = 0
          · have hz := Lib.hid (hn.out (okAt_no hA (.inl h0)))
            clear hA
            subst h0
            go_wp2_with fail
            refine (L _).mono ?_
            rintro e w2 ⟨rfl, rfl⟩
            go_wp2
            go_ret
            exact ⟨by rw [hz.out]; rfl, iter_ext _ _ _⟩
          · have h0' : ¬ (j : Int) = 0 := by omega
            have h0b : ((j : Int) == 0) = false := by rw [beq_eq_false_iff_ne]; omega
            by_cases hC : ((l[j]).toNat : Int) = 95
            · have hz := Lib.hid (hy.out (okAt_oth h0 (.inr hC)))
              clear hA L
              have L := fun W => letter_any 95 false (by decide) W
              go_wp2_with fail
              refine (L _).mono ?_
              rintro e w2 ⟨rfl, rfl⟩
              go_wp2
              go_roundw
              case rel => exact ⟨j + 1, by omega, rfl, hz.out⟩
              case measure => simp; omega
            · have h95 : (((l[j]).toNat : Int) == 95) = false := by rw [beq_eq_false_iff_ne]; omega
              have h95n : (((l[j]).toNat : Int) != 95) = true := by rw [bne_iff_ne]; omega
              by_cases hD : ((l[j]).toNat : Int) < 48
              · have hz := Lib.hid (hn.out (okAt_no hA (.inr (by omega))))
                clear hA
                go_wp2_with fail
                refine (L _).mono ?_
                rintro e w2 ⟨rfl, rfl⟩
                go_wp2
                go_ret
                exact ⟨by rw [hz.out]; rfl, iter_ext _ _ _⟩
              · by_cases hE : ((l[j]).toNat : Int) ≤ 57
                · have hz := Lib.hid (hy.out (okAt_oth h0 (.inl ⟨by omega, hE⟩)))
                  clear hA
                  go_wp2_with fail
                  refine (L _).mono ?_
                  rintro e w2 ⟨rfl, rfl⟩
                  go_wp2
                  go_roundw
                  case rel => exact ⟨j + 1, by omega, rfl, hz.out⟩
                  case measure => simp; omega
                · have hz := Lib.hid (hn.out (okAt_no hA (.inr (by omega))))
                  clear hA
                  go_wp2_with fail
                  refine (L _).mono ?_
                  rintro e w2 ⟨rfl, rfl⟩
                  go_wp2
                  go_ret
                  exact ⟨by rw [hz.out]; rfl, iter_ext _ _ _⟩
      · have hnx : ∀ ty, (Instr.next (.pointer (some ⟨w.heap.size, 0, none⟩)) true ty).run Tryz.prog (w.iter (sB l) j) = .ok (.tuple #[.bool true, .int .i64 j, .int .i32 (Utf8.decode (sB l) j).1]) (w.iter (sB l) (j + (Utf8.decode (sB l) j).2)) := fun ty => run_next_any w (sB l) j ty hsz
        have hd := (decode_high (sB l) j hsz (by rw [sB_get]; omega)).1
        have hd2 := decode_le (sB l) j
        have hz := Lib.hid (hn.out (okAt_no (by omega) (.inr (by omega))))
        generalize (Utf8.decode (sB l) j).1 = d at *
        generalize (Utf8.decode (sB l) j).2 = d2 at *
        have L := fun W => letter_any (d : Int) false (by simp; omega) W
        have h95 : ((d : Int) == 95) = false := by rw [beq_eq_false_iff_ne]; omega
        have h95n : ((d : Int) != 95) = true := by rw [bne_iff_ne]; omega
        have h48 : ¬ (d : Int) < 48 := by omega
        have h57 : ¬ (d : Int) ≤ 57 := by omega
        go_wp2_with fail
        refine (L _).mono ?_
        rintro e w2 ⟨rfl, rfl⟩
        by_cases h0 : j = 0
        · subst h0
          go_wp2
          go_ret
          exact ⟨by rw [hz.out]; rfl, iter_ext _ _ _⟩
        · have h0' : ¬ (j : Int) = 0 := by omega
          go_wp2
          go_ret
          exact ⟨by rw [hz.out]; rfl, iter_ext _ _ _⟩
    · obtain rfl : j = l.length := by omega
      have hz := Lib.hid (HE.out HK.out)
      have hnx : ∀ ty, (Instr.next (.pointer (some ⟨w.heap.size, 0, none⟩)) true ty).run Tryz.prog (w.iter (sB l) l.length) = .ok (.tuple #[.bool false]) (w.iter (sB l) l.length) := fun ty => run_next_end w (sB l) l.length ty (by rw [sB_size]; omega)
      by_cases h1 : 1 ≤ l.length
      · by_cases h2 : l.length ≤ 30
        · have hq := Lib.hid (show r = true by rw [hz.out]; simp [h1, h2])
          clear hz
          go_wp2
          go_ret
          exact ⟨by rw [hq.out]; simp; omega, iter_ext _ _ _⟩
        · have hq := Lib.hid (show r = false by rw [hz.out]; simp [h2])
          clear hz
          go_wp2
          go_ret
          exact ⟨by rw [hq.out]; simp; omega, iter_ext _ _ _⟩
      · have hq := Lib.hid (show r = false by rw [hz.out]; simp [h1])
        clear hz
        go_wp2
        go_ret
        exact ⟨by rw [hq.out]; rfl, iter_ext _ _ _⟩

end Go.Proofs.YtmokejjndkibhaaGreatDoor

namespace Go.Proofs.YtmokejjndkibhaaGreatDoor
open Go.RowKit
set_option linter.unusedVariables false
set_option linter.unusedSimpArgs false

/-- the entries hold these keys and values, in this order -/
def Holds (es : Array MapEntry) (l : List (Int × Value)) : Prop := es.toList.map (fun e => (e.key, e.val)) = l.map fun p => (Value.int .i64 p.1, p.2)

theorem findNow_at (k : Int) : ∀ (es : List MapEntry) (l : List (Int × Value)) (i : Nat), es.map (fun e => (e.key, e.val)) = l.map (fun p => (Value.int .i64 p.1, p.2)) →
    Instr.findNow (.int .i64) (.int .i64 k) es i = some ((l.zipIdx i).find? (fun p => p.1.1 == k) |>.map fun p => (p.2, p.1.2))
  | [], l, i, h => by
    obtain rfl : l = [] := by simpa using h.symm
    rfl
  | e :: es, [], i, h => by simp at h
  | e :: es, (n, v) :: l, i, h => by
    simp only [List.map_cons, List.cons.injEq, Prod.mk.injEq] at h
    obtain ⟨⟨h1, h2⟩, h3⟩ := h
    have ih := findNow_at k es l (i + 1) h3
    simp only [Instr.findNow, h1, Instr.sameNow, if_true, List.zipIdx_cons, List.find?_cons]
    by_cases hn : n = k
    · subst hn; simp [h2]
    · have e1 : (n == k) = false := by simpa using hn
      have e2 : (k == n) = false := by simpa using Ne.symm hn
      simp only [e1, e2]
      exact ih

variable {P : Program}
open Go.MapKept

theorem holds_find {es : Array MapEntry} {l : List (Int × Value)} (h : Holds es l) (kt : TypeId) (hk : P.underlying kt = some (.int .i64)) (k : Int) (w : World) :
    (Instr.findKey kt (.int .i64 k) es.toList).run P w = .ok ((l.zipIdx 0).find? (fun p => p.1.1 == k) |>.map fun p => (p.2, p.1.2)) w := by
  simp [Instr.findKey, run_underlying hk, findNow_at k es.toList l 0 h, Result.andThen]

theorem check_int (kt : TypeId) (hk : P.underlying kt = some (.int .i64)) (em : Bool) (k : Int) (w : World) : (Instr.checkKey em 10000 kt (.int .i64 k)).run P w = .ok () w := by
  rw [show (10000 : Nat) = 9999 + 1 from rfl, Instr.checkKey]
  simp [run_underlying hk, Result.andThen]

theorem zip_find (k : Int) : ∀ (l : List (Int × Value)) (i : Nat), ((l.zipIdx i).find? (fun p => p.1.1 == k)).map (fun p => p.1.2) = (l.find? (fun p => p.1 == k)).map (·.2)
  | [], _ => rfl
  | (n, v) :: l, i => by
    simp only [List.zipIdx_cons, List.find?_cons]
    cases h : n == k with
    | true => rfl
    | false => exact zip_find k l (i + 1)

/-- a look-up -/
theorem run_lookup_int {es : Array MapEntry} {clock b : Nat} {l : List (Int × Value)} {t kt e : TypeId} {w : World} (ht : P.underlying t = some (.map kt e)) (hk : P.underlying kt = some (.int .i64)) (hb : w.heap[b]? = some (.map es clock)) (h : Holds es l) (z : Value) (hz : (zeroValue e).run P w = .ok z w) (k : Int) (c : Bool) :
    (Instr.lookup t (.map (some b)) (.int .i64 k) c).run P w = .ok (if c then .tuple #[(((l.find? (fun p => p.1 == k)).map (·.2))).getD z, .bool ((l.find? (fun p => p.1 == k)).map (·.2)).isSome] else (((l.find? (fun p => p.1 == k)).map (·.2))).getD z) w := by
  rw [← zip_find k l 0]
  have hf := holds_find (P := P) h kt hk k w
  simp only [Instr.lookup, Sem.run_bind, run_underlying ht, Go.MapKept.run_getObj_map hb, check_int kt hk, hf, Result.andThen, Sem.run_pure]
  cases (l.zipIdx 0).find? (fun p => p.1.1 == k) with
  | none => simp [hz, Result.andThen]
  | some x => simp

/-- a store of a new key -/
theorem run_insert_new {es : Array MapEntry} {clock b : Nat} {l : List (Int × Value)} {t kt e : TypeId} {w : World} (ht : P.underlying t = some (.map kt e)) (hk : P.underlying kt = some (.int .i64)) (hb : w.heap[b]? = some (.map es clock)) (h : Holds es l) (k : Int) (hno : l.all (fun p => p.1 != k) = true) (v : Value) :
    ∃ es' clock' W, (Instr.mapUpdate t (.map (some b)) (.int .i64 k) v).run P w = .ok () W ∧ Holds es' (l ++ [(k, v)]) ∧ Turn b (.map es' clock') w W := by
  have hf := holds_find (P := P) h kt hk k w
  have hn : (l.zipIdx 0).find? (fun p => p.1.1 == k) = none := by
    have hz := zip_find k l 0
    have h0 : l.find? (fun p => p.1 == k) = none := by
      rw [List.find?_eq_none]
      intro x hx
      have := List.all_eq_true.1 hno x hx
      simpa using this
    rw [h0] at hz
    simpa using hz
  rw [hn] at hf
  have hlt := lt_of_block hb
  refine ⟨es.push { key := .int .i64 k, val := v, born := clock }, clock + 1, { w with heap := w.heap.setIfInBounds b (.map (es.push { key := .int .i64 k, val := v, born := clock }) (clock + 1)) }, ?_, ?_, ?_⟩
  · simp only [Instr.mapUpdate, Sem.run_bind, run_underlying ht, Go.MapKept.run_getObj_map hb, check_int kt hk, hf, Result.andThen]
    simp [run_setObj_map _ hb]
  · unfold Holds at h ⊢
    simp [h]
  · exact ⟨rfl, rfl, rfl, by simp, by simp [hlt], fun j hj hne => by simp [Array.getElem?_setIfInBounds_ne (Ne.symm hne)]⟩

end Go.Proofs.YtmokejjndkibhaaGreatDoor

namespace Go.Proofs.YtmokejjndkibhaaGreatDoor
open Go.RowKit
set_option linter.unusedVariables false
set_option linter.unusedSimpArgs false

/-- block b is a map with these entries -/
def MapAt (w : World) (b : Nat) (l : List (Int × Value)) : Prop := ∃ es clock, w.heap[b]? = some (.map es clock) ∧ Holds es l
theorem MapAt.ext {w W : World} {b : Nat} {l : List (Int × Value)} (h : MapAt w b l) (hE : Ext w W) : MapAt W b l := by
  obtain ⟨es, c, h1, h2⟩ := h
  exact ⟨es, c, (hE.below.block b (lt_of_block h1)).trans h1, h2⟩
theorem MapAt.lt {w : World} {b : Nat} {l : List (Int × Value)} (h : MapAt w b l) : b < w.heap.size := by
  obtain ⟨es, c, h1, h2⟩ := h
  exact lt_of_block h1
theorem MapAt.made (w : World) : MapAt (w.alloc (.map #[] 0)) w.heap.size [] := ⟨#[], 0, alloc_here _ _, rfl⟩

variable {P : Program} {ops : Array Oper} {rest : List Oper} {o : Oper} {a : Act} {Q : Exit → Act → World → Prop}
theorem wp_insert {w : World} (hg : o.guard = none) (m x v : Operand) (t : TypeId) (hop : o.op = Op.insert t m x v) (kt e : TypeId) (ht : P.underlying t = some (.map kt e)) (hk : P.underlying kt = some (.int .i64))
    (b : Nat) (l : List (Int × Value)) (hm : a.eval m = .map (some b)) (h : MapAt w b l) (k : Int) (val : Value) (hx : a.eval x = .int .i64 k) (hv : a.eval v = val) (hno : l.all (fun p => p.1 != k) = true)
    (hK : ∀ W, MapAt W b (l ++ [(k, val)]) → Below b w W → (∀ j, j < w.heap.size → j ≠ b → W.heap[j]? = w.heap[j]?) → wpList P ops Q rest (a.put o.dst undef) W) : wpList P ops Q (o :: rest) a w := by
  obtain ⟨es, c, h1, h2⟩ := h
  obtain ⟨es', c', W, hrun, h3, h4⟩ := run_insert_new ht hk h1 h2 k hno val
  refine wpList_plain hg fun K' hK' => ?_
  unfold Oper.wp
  simp [execOp, hop, hm, hx, hv, hrun, Result.andThen]
  exact hK' _ _ (hK W ⟨es', c', h4.here, h3⟩ (h4.below (Nat.le_refl _) (Nat.le_of_lt (lt_of_block h1))) h4.other)

end Go.Proofs.YtmokejjndkibhaaGreatDoor

namespace Go.Proofs.YtmokejjndkibhaaGreatDoor
open Go.RowKit
set_option linter.unusedVariables false
set_option linter.unusedSimpArgs false

/-- block g is one cell that holds v -/
def One (W : World) (g : Nat) (v : Value) (t : TypeId) : Prop := W.heap[g]? = some (.cells #[v] t (0, 0))
theorem One.cell {W : World} {g : Nat} {v : Value} {t : TypeId} (h : One W g v t) : W.cell? ⟨g, 0, none⟩ = some v := cell_of h rfl
theorem One.ext {w W : World} {g : Nat} {v : Value} {t : TypeId} (h : One w g v t) (hE : Ext w W) : One W g v t := (hE.below.block g (lt_of_block h)).trans h
abbrev tNum : TypeId := 117
abbrev tTru : TypeId := 119

theorem number_any (n : FuncId) (xs ys : Array Value) (w : World) : Calls Tryz.prog 104 #[.func (.func n) xs ys] w fun e W =>
    ∃ g, e = .returned (.func (.func 141) #[] #[.pointer (some ⟨g, 0, none⟩)]) ∧ One W g (.func (.func n) xs ys) tNum ∧ Ext w W := by
  go_enter Tryz.func104, Tryz.ntmps104
  go_wp2
  go_ret
  exact ⟨_, rfl, alloc_here _ _, (Below.refl _ w).alloc (Nat.le_refl _) _⟩

theorem divide_any (n : FuncId) (xs ys : Array Value) (w : World) : Calls Tryz.prog 108 #[.func (.func n) xs ys] w fun e W =>
    ∃ g, e = .returned (.func (.func 143) #[] #[.pointer (some ⟨g, 0, none⟩)]) ∧ One W g (.func (.func n) xs ys) tNum ∧ Ext w W := by
  go_enter Tryz.func108, Tryz.ntmps108
  go_wp2
  go_ret
  exact ⟨_, rfl, alloc_here _ _, (Below.refl _ w).alloc (Nat.le_refl _) _⟩

theorem truth_any (n : FuncId) (xs ys : Array Value) (w : World) : Calls Tryz.prog 111 #[.func (.func n) xs ys] w fun e W =>
    ∃ g h, e = .returned (.func (.func 141) #[] #[.pointer (some ⟨g, 0, none⟩)]) ∧ One W g (.func (.func 144) #[] #[.pointer (some ⟨h, 0, none⟩)]) tNum ∧ One W h (.func (.func n) xs ys) tTru ∧ Ext w W := by
  go_enter Tryz.func111, Tryz.ntmps111
  go_wp2_with fail
  refine (number_any _ _ _ _).mono ?_
  rintro e W ⟨g, rfl, hc, hE⟩
  go_wp2
  go_ret
  have h0 : One (w.alloc (.cells #[.func (.func n) xs ys] tTru)) w.heap.size (.func (.func n) xs ys) tTru := alloc_here _ _
  exact ⟨g, w.heap.size, rfl, hc, h0.ext hE, Ext.trans ((Below.refl _ w).alloc (Nat.le_refl _) _) hE⟩

end Go.Proofs.YtmokejjndkibhaaGreatDoor

namespace Go.Proofs.YtmokejjndkibhaaGreatDoor
open Go.RowKit
set_option linter.unusedVariables false
set_option linter.unusedSimpArgs false

def numF (k : Int) : Option FuncId := if k = 3 then some 105 else if k = 4 then some 106 else none
def divF (k : Int) : Option FuncId := if k = 6 then some 109 else if k = 7 then some 110 else none
def truF (k : Int) : Option FuncId :=
  if k = 8 then some 112 else if k = 9 then some 113 else if k = 10 then some 114 else if k = 11 then some 115 else
  if k = 12 then some 116 else if k = 13 then some 117 else if k = 14 then some 118 else if k = 15 then some 119 else none
/-- fv is the function of operator k -/
def FnOk (W : World) (k : Int) (fv : Value) : Prop :=
  (k = 5 ∧ fv = .func (.func 107) #[] #[]) ∨
  (∃ n g, numF k = some n ∧ fv = .func (.func 141) #[] #[.pointer (some ⟨g, 0, none⟩)] ∧ One W g (.func (.func n) #[] #[]) tNum) ∨
  (∃ n g, divF k = some n ∧ fv = .func (.func 143) #[] #[.pointer (some ⟨g, 0, none⟩)] ∧ One W g (.func (.func n) #[] #[]) tNum) ∨
  (∃ n g h, truF k = some n ∧ fv = .func (.func 141) #[] #[.pointer (some ⟨g, 0, none⟩)] ∧ One W g (.func (.func 144) #[] #[.pointer (some ⟨h, 0, none⟩)]) tNum ∧ One W h (.func (.func n) #[] #[]) tTru)
theorem FnOk.keep {w W : World} {k : Int} {fv : Value} (h : FnOk w k fv) (hk : ∀ g v t, t = tNum ∨ t = tTru → One w g v t → One W g v t) : FnOk W k fv := by
  rcases h with h | ⟨n, g, h1, h2, h3⟩ | ⟨n, g, h1, h2, h3⟩ | ⟨n, g, h, h1, h2, h3, h4⟩
  · exact .inl h
  · exact .inr (.inl ⟨n, g, h1, h2, hk _ _ _ (.inl rfl) h3⟩)
  · exact .inr (.inr (.inl ⟨n, g, h1, h2, hk _ _ _ (.inl rfl) h3⟩))
  · exact .inr (.inr (.inr ⟨n, g, h, h1, h2, hk _ _ _ (.inl rfl) h3, hk _ _ _ (.inr rfl) h4⟩))
/-- one entry: operator k -/
structure Entry where
  k : Int
  sign : List UInt8
  prec : Int
  arg : Int
  res : Int
def Entry.val (e : Entry) (fv : Value) : Value := .agg #[sV e.sign, .int .i64 e.prec, .int .i64 e.arg, .int .i64 e.res, fv]
/-- block b is a map of these operators -/
def OpsAt (W : World) (b : Nat) (L : List Entry) : Prop := ∃ fs : List Value, fs.length = L.length ∧ MapAt W b (List.zipWith (fun (e : Entry) fv => (e.k, e.val fv)) L fs) ∧ ∀ i (h : i < L.length) (h' : i < fs.length), FnOk W L[i].k fs[i]
theorem OpsAt.ext {w W : World} {b : Nat} {L : List Entry} (h : OpsAt w b L) (hE : Ext w W) : OpsAt W b L := by
  obtain ⟨fs, h1, h2, h3⟩ := h
  exact ⟨fs, h1, h2.ext hE, fun i hi hi' => (h3 i hi hi').keep (fun _ _ _ _ h => h.ext hE)⟩
theorem OpsAt.made (w : World) : OpsAt (w.alloc (.map #[] 0)) w.heap.size [] := ⟨[], rfl, MapAt.made w, fun i h => by simp at h⟩

theorem zip_snoc (L : List Entry) (fs : List Value) (h : fs.length = L.length) (e : Entry) (fv : Value) : List.zipWith (fun (e : Entry) fv => (e.k, e.val fv)) (L ++ [e]) (fs ++ [fv]) = List.zipWith (fun (e : Entry) fv => (e.k, e.val fv)) L fs ++ [(e.k, e.val fv)] := by
  rw [List.zipWith_append h.symm]; rfl

variable {ops : Array Oper} {rest : List Oper} {o : Oper} {a : Act} {Q : Exit → Act → World → Prop}
theorem wp_op {w : World} (hg : o.guard = none) (m x v : Operand) (t : TypeId) (hop : o.op = Op.insert t m x v) (kt el : TypeId) (ht : Tryz.prog.underlying t = some (.map kt el)) (hk : Tryz.prog.underlying kt = some (.int .i64))
    (b : Nat) (L : List Entry) (h : OpsAt w b L) (e : Entry) (fv : Value) (hm : a.eval m = .map (some b)) (hx : a.eval x = .int .i64 e.k) (hv : a.eval v = e.val fv) (hf : FnOk w e.k fv) (hno : L.all (fun x => x.k != e.k) = true)
    (hK : ∀ W, OpsAt W b (L ++ [e]) → Below b w W → wpList Tryz.prog ops Q rest (a.put o.dst undef) W) : wpList Tryz.prog ops Q (o :: rest) a w := by
  obtain ⟨fs, h1, h2, h3⟩ := h
  refine wp_insert hg m x v t hop kt el ht hk b _ hm h2 e.k (e.val fv) hx hv ?_ ?_
  · rw [List.all_eq_true]
    intro p hp
    obtain ⟨i, hi, rfl⟩ := List.mem_iff_getElem.1 hp
    have hi2 : i < L.length := by simp at hi; omega
    have := List.all_eq_true.1 hno L[i] (List.getElem_mem hi2)
    simpa using this
  · intro W hM hB hO
    have hcell : ∀ g u t, t = tNum ∨ t = tTru → One w g u t → One W g u t := fun g u t _ hu => by
      have hlt := lt_of_block hu
      have hne : g ≠ b := by
        rintro rfl
        obtain ⟨es, c, h4, _⟩ := h2
        rw [One, h4] at hu; cases hu
      exact (hO g hlt hne).trans hu
    refine hK W ⟨fs ++ [fv], by simp [h1], by rw [zip_snoc _ _ h1]; exact hM, fun i hi hi' => ?_⟩ hB
    by_cases hl : i < L.length
    · have hl2 : i < fs.length := by omega
      rw [List.getElem_append_left hl, List.getElem_append_left hl2]
      exact (h3 i hl hl2).keep hcell
    · have e1 : i = L.length := by simp at hi; omega
      subst e1
      have := hf.keep hcell
      simpa [h1.symm] using this

end Go.Proofs.YtmokejjndkibhaaGreatDoor

namespace Go.Proofs.YtmokejjndkibhaaGreatDoor
open Go.RowKit
set_option linter.unusedVariables false
set_option linter.unusedSimpArgs false

def opL : List Entry := [⟨3, [43], 4, 1, 1⟩, ⟨4, [45], 4, 1, 1⟩, ⟨5, [42], 5, 1, 1⟩, ⟨6, [47], 5, 1, 1⟩, ⟨7, [37], 5, 1, 1⟩, ⟨8, [61, 61], 3, 0, 2⟩, ⟨9, [33, 61], 3, 0, 2⟩, ⟨10, [60], 3, 1, 2⟩, ⟨11, [60, 61], 3, 1, 2⟩, ⟨12, [62], 3, 1, 2⟩, ⟨13, [62, 61], 3, 1, 2⟩, ⟨14, [38, 38], 2, 2, 2⟩, ⟨15, [124, 124], 1, 2, 2⟩]

set_option maxRecDepth 100000 in
set_option maxHeartbeats 4000000 in
theorem operators_any (w : World) : Calls Tryz.prog 86 #[] w fun e W => ∃ b, e = .returned (.map (some b)) ∧ OpsAt W b opL ∧ Ext w W := by
  have hmm := @run_makeMap Tryz.prog
  have hO := OpsAt.made w
  have hE : Ext w (w.alloc (.map #[] 0)) := (Below.refl _ w).alloc (Nat.le_refl _) _
  go_enter Tryz.func86, Tryz.ntmps86
  dsimp only [List.append]
  go_wp2_with fail
  refine (number_any _ _ _ _).mono ?_
  rintro e W0 ⟨g, rfl, hc, hE1⟩
  replace hO := hO.ext hE1
  replace hE := Ext.trans hE hE1
  clear hE1
  dsimp only
  go_wp2_with (first | (refine wp_op rfl _ _ _ _ rfl _ _ Tryz.underlying102 Tryz.underlying3 _ _ hO ⟨3, [43], 4, 1, 1⟩ _ ?_ ?_ ?_ (.inr (.inl ⟨_, _, rfl, rfl, hc⟩)) rfl ?_; exact rfl; exact rfl; exact rfl; clear hc; intro V0 hO1 hB; replace hE := Below.trans hE hB; clear hB hO; have hO := hO1; clear hO1))
  go_wp2_with fail
  refine (number_any _ _ _ _).mono ?_
  rintro e W1 ⟨g, rfl, hc, hE1⟩
  replace hO := hO.ext hE1
  replace hE := Ext.trans hE hE1
  clear hE1
  dsimp only
  go_wp2_with (first | (refine wp_op rfl _ _ _ _ rfl _ _ Tryz.underlying102 Tryz.underlying3 _ _ hO ⟨4, [45], 4, 1, 1⟩ _ ?_ ?_ ?_ (.inr (.inl ⟨_, _, rfl, rfl, hc⟩)) rfl ?_; exact rfl; exact rfl; exact rfl; clear hc; intro V1 hO1 hB; replace hE := Below.trans hE hB; clear hB hO; have hO := hO1; clear hO1) | (refine wp_op rfl _ _ _ _ rfl _ _ Tryz.underlying102 Tryz.underlying3 _ _ hO ⟨5, [42], 5, 1, 1⟩ _ ?_ ?_ ?_ (.inl ⟨rfl, rfl⟩) rfl ?_; exact rfl; exact rfl; exact rfl; intro V2 hO1 hB; replace hE := Below.trans hE hB; clear hB hO; have hO := hO1; clear hO1))
  go_wp2_with fail
  refine (divide_any _ _ _ _).mono ?_
  rintro e W3 ⟨g, rfl, hc, hE1⟩
  replace hO := hO.ext hE1
  replace hE := Ext.trans hE hE1
  clear hE1
  dsimp only
  go_wp2_with (first | (refine wp_op rfl _ _ _ _ rfl _ _ Tryz.underlying102 Tryz.underlying3 _ _ hO ⟨6, [47], 5, 1, 1⟩ _ ?_ ?_ ?_ (.inr (.inr (.inl ⟨_, _, rfl, rfl, hc⟩))) rfl ?_; exact rfl; exact rfl; exact rfl; clear hc; intro V3 hO1 hB; replace hE := Below.trans hE hB; clear hB hO; have hO := hO1; clear hO1))
  go_wp2_with fail
  refine (divide_any _ _ _ _).mono ?_
  rintro e W4 ⟨g, rfl, hc, hE1⟩
  replace hO := hO.ext hE1
  replace hE := Ext.trans hE hE1
  clear hE1
  dsimp only
  go_wp2_with (first | (refine wp_op rfl _ _ _ _ rfl _ _ Tryz.underlying102 Tryz.underlying3 _ _ hO ⟨7, [37], 5, 1, 1⟩ _ ?_ ?_ ?_ (.inr (.inr (.inl ⟨_, _, rfl, rfl, hc⟩))) rfl ?_; exact rfl; exact rfl; exact rfl; clear hc; intro V4 hO1 hB; replace hE := Below.trans hE hB; clear hB hO; have hO := hO1; clear hO1))
  go_wp2_with fail
  refine (truth_any _ _ _ _).mono ?_
  rintro e W5 ⟨g, h, rfl, hc, hc2, hE1⟩
  replace hO := hO.ext hE1
  replace hE := Ext.trans hE hE1
  clear hE1
  dsimp only
  go_wp2_with (first | (refine wp_op rfl _ _ _ _ rfl _ _ Tryz.underlying102 Tryz.underlying3 _ _ hO ⟨8, [61, 61], 3, 0, 2⟩ _ ?_ ?_ ?_ (.inr (.inr (.inr ⟨_, _, _, rfl, rfl, hc, hc2⟩))) rfl ?_; exact rfl; exact rfl; exact rfl; clear hc hc2; intro V5 hO1 hB; replace hE := Below.trans hE hB; clear hB hO; have hO := hO1; clear hO1))
  go_wp2_with fail
  refine (truth_any _ _ _ _).mono ?_
  rintro e W6 ⟨g, h, rfl, hc, hc2, hE1⟩
  replace hO := hO.ext hE1
  replace hE := Ext.trans hE hE1
  clear hE1
  dsimp only
  go_wp2_with (first | (refine wp_op rfl _ _ _ _ rfl _ _ Tryz.underlying102 Tryz.underlying3 _ _ hO ⟨9, [33, 61], 3, 0, 2⟩ _ ?_ ?_ ?_ (.inr (.inr (.inr ⟨_, _, _, rfl, rfl, hc, hc2⟩))) rfl ?_; exact rfl; exact rfl; exact rfl; clear hc hc2; intro V6 hO1 hB; replace hE := Below.trans hE hB; clear hB hO; have hO := hO1; clear hO1))
  go_wp2_with fail
  refine (truth_any _ _ _ _).mono ?_
  rintro e W7 ⟨g, h, rfl, hc, hc2, hE1⟩
  replace hO := hO.ext hE1
  replace hE := Ext.trans hE hE1
  clear hE1
  dsimp only
  go_wp2_with (first | (refine wp_op rfl _ _ _ _ rfl _ _ Tryz.underlying102 Tryz.underlying3 _ _ hO ⟨10, [60], 3, 1, 2⟩ _ ?_ ?_ ?_ (.inr (.inr (.inr ⟨_, _, _, rfl, rfl, hc, hc2⟩))) rfl ?_; exact rfl; exact rfl; exact rfl; clear hc hc2; intro V7 hO1 hB; replace hE := Below.trans hE hB; clear hB hO; have hO := hO1; clear hO1))
  go_wp2_with fail
  refine (truth_any _ _ _ _).mono ?_
  rintro e W8 ⟨g, h, rfl, hc, hc2, hE1⟩
  replace hO := hO.ext hE1
  replace hE := Ext.trans hE hE1
  clear hE1
  dsimp only
  go_wp2_with (first | (refine wp_op rfl _ _ _ _ rfl _ _ Tryz.underlying102 Tryz.underlying3 _ _ hO ⟨11, [60, 61], 3, 1, 2⟩ _ ?_ ?_ ?_ (.inr (.inr (.inr ⟨_, _, _, rfl, rfl, hc, hc2⟩))) rfl ?_; exact rfl; exact rfl; exact rfl; clear hc hc2; intro V8 hO1 hB; replace hE := Below.trans hE hB; clear hB hO; have hO := hO1; clear hO1))
  go_wp2_with fail
  refine (truth_any _ _ _ _).mono ?_
  rintro e W9 ⟨g, h, rfl, hc, hc2, hE1⟩
  replace hO := hO.ext hE1
  replace hE := Ext.trans hE hE1
  clear hE1
  dsimp only
  go_wp2_with (first | (refine wp_op rfl _ _ _ _ rfl _ _ Tryz.underlying102 Tryz.underlying3 _ _ hO ⟨12, [62], 3, 1, 2⟩ _ ?_ ?_ ?_ (.inr (.inr (.inr ⟨_, _, _, rfl, rfl, hc, hc2⟩))) rfl ?_; exact rfl; exact rfl; exact rfl; clear hc hc2; intro V9 hO1 hB; replace hE := Below.trans hE hB; clear hB hO; have hO := hO1; clear hO1))
  go_wp2_with fail
  refine (truth_any _ _ _ _).mono ?_
  rintro e W10 ⟨g, h, rfl, hc, hc2, hE1⟩
  replace hO := hO.ext hE1
  replace hE := Ext.trans hE hE1
  clear hE1
  dsimp only
  go_wp2_with (first | (refine wp_op rfl _ _ _ _ rfl _ _ Tryz.underlying102 Tryz.underlying3 _ _ hO ⟨13, [62, 61], 3, 1, 2⟩ _ ?_ ?_ ?_ (.inr (.inr (.inr ⟨_, _, _, rfl, rfl, hc, hc2⟩))) rfl ?_; exact rfl; exact rfl; exact rfl; clear hc hc2; intro V10 hO1 hB; replace hE := Below.trans hE hB; clear hB hO; have hO := hO1; clear hO1))
  go_wp2_with fail
  refine (truth_any _ _ _ _).mono ?_
  rintro e W11 ⟨g, h, rfl, hc, hc2, hE1⟩
  replace hO := hO.ext hE1
  replace hE := Ext.trans hE hE1
  clear hE1
  dsimp only
  go_wp2_with (first | (refine wp_op rfl _ _ _ _ rfl _ _ Tryz.underlying102 Tryz.underlying3 _ _ hO ⟨14, [38, 38], 2, 2, 2⟩ _ ?_ ?_ ?_ (.inr (.inr (.inr ⟨_, _, _, rfl, rfl, hc, hc2⟩))) rfl ?_; exact rfl; exact rfl; exact rfl; clear hc hc2; intro V11 hO1 hB; replace hE := Below.trans hE hB; clear hB hO; have hO := hO1; clear hO1))
  go_wp2_with fail
  refine (truth_any _ _ _ _).mono ?_
  rintro e W12 ⟨g, h, rfl, hc, hc2, hE1⟩
  replace hO := hO.ext hE1
  replace hE := Ext.trans hE hE1
  clear hE1
  dsimp only
  go_wp2_with (first | (refine wp_op rfl _ _ _ _ rfl _ _ Tryz.underlying102 Tryz.underlying3 _ _ hO ⟨15, [124, 124], 1, 2, 2⟩ _ ?_ ?_ ?_ (.inr (.inr (.inr ⟨_, _, _, rfl, rfl, hc, hc2⟩))) rfl ?_; exact rfl; exact rfl; exact rfl; clear hc hc2; intro V12 hO1 hB; replace hE := Below.trans hE hB; clear hB hO; have hO := hO1; clear hO1))
  go_ret
  exact ⟨_, rfl, hO, hE⟩

end Go.Proofs.YtmokejjndkibhaaGreatDoor

namespace Go.Proofs.YtmokejjndkibhaaGreatDoor
open Go.RowKit
set_option linter.unusedVariables false
set_option linter.unusedSimpArgs false

theorem enters_fn {f : FuncId} {fn : Func} {c : Code} (hf : Tryz.prog.funcs[f]? = some fn) (hname : (fn.name == "runtime.NumGoroutine") = false) (hb : fn.body = some c) : ∀ args w, (callFunc f args).run Tryz.prog w = .ok (.enter f args) w := by
  intro args w
  have h1 : fn.name ≠ "runtime.NumGoroutine" := by simpa using hname
  simp [callFunc, hf, h1, hb, mark]

/-- a number that a program may hold -/
def inM (x : Int) : Prop := -1099511627776 ≤ x ∧ x ≤ 1099511627776
instance (x : Int) : Decidable (inM x) := inferInstanceAs (Decidable (_ ∧ _))
end Go.Proofs.YtmokejjndkibhaaGreatDoor

namespace Go.Proofs.YtmokejjndkibhaaGreatDoor
open Go.RowKit
set_option linter.unusedVariables false
set_option linter.unusedSimpArgs false

/-- a binding: a name, a type, a value -/
structure Bn where
  name : List UInt8
  type : Int
  value : Int
def Bn.val (b : Bn) : Value := .agg #[sV b.name, .int .i64 b.type, .int .i64 b.value]
def Bn.fits (b : Bn) : Prop := b.name.length ≤ 140737488355328 ∧ Ex.wf b.type ∧ Ex.wf b.value
/-- the cells of a binding -/
def Bn.cells (w : World) (b o : Nat) (x : Bn) : Prop :=
  w.cell? ⟨b, o, none⟩ = some (sV x.name) ∧ w.cell? ⟨b, o + 1, none⟩ = some (.int .i64 x.type) ∧ w.cell? ⟨b, o + 2, none⟩ = some (.int .i64 x.value)
/-- these bindings lie at p -/
def BAt (w : World) (p : Option Addr) (bs : List Bn) : Prop :=
  (bs.length ≤ 4398046510976 ∧ ∀ b ∈ bs, b.fits) ∧ ∀ j (h : j < bs.length), ∃ b o, p = some ⟨b, o, none⟩ ∧ Bn.cells w b (o + j * 3) bs[j]
theorem Bn.cells.below {w W : World} {b o : Nat} {x : Bn} (h : Bn.cells w b o x) (hb : Below w.heap.size w W) : Bn.cells W b o x := by
  obtain ⟨h0, h1, h2⟩ := h
  have hl := Ex.cell_lt' h0
  exact ⟨(hb.cell (p := ⟨b, o, none⟩) hl).trans h0, (hb.cell (p := ⟨b, o + 1, none⟩) hl).trans h1, (hb.cell (p := ⟨b, o + 2, none⟩) hl).trans h2⟩
theorem BAt.below {w W : World} {p : Option Addr} {bs : List Bn} (h : BAt w p bs) (hb : Below w.heap.size w W) : BAt W p bs :=
  ⟨h.1, fun j hj => by obtain ⟨b, o, e, hc⟩ := h.2 j hj; exact ⟨b, o, e, hc.below hb⟩⟩
theorem BAt.nil (w : World) (p : Option Addr) : BAt w p [] := ⟨⟨by simp, by simp⟩, fun j h => by simp at h⟩

/-- a binding is valid behind one of a name -/
def Bn.ok (prev : Option (List UInt8)) (b : Bn) : Bool :=
  isNm b.name && (match prev with | none => true | some n => Op.bytesLess n b.name) && decide (b.type = 1 ∨ b.type = 2) && (if b.type = 2 then decide (b.value = 0 ∨ b.value = 1) else decide (inM b.value))
end Go.Proofs.YtmokejjndkibhaaGreatDoor

namespace Go.Proofs.YtmokejjndkibhaaGreatDoor
open Go.RowKit
set_option linter.unusedVariables false
set_option linter.unusedSimpArgs false

end Go.Proofs.YtmokejjndkibhaaGreatDoor

namespace Go.Proofs.YtmokejjndkibhaaGreatDoor
open Go.RowKit
set_option linter.unusedVariables false
set_option linter.unusedSimpArgs false

end Go.Proofs.YtmokejjndkibhaaGreatDoor

namespace Go.Proofs.YtmokejjndkibhaaGreatDoor
open Go.RowKit
set_option linter.unusedVariables false
set_option linter.unusedSimpArgs false

def isN (n : List UInt8) (b : Bn) : Bool := b.name == n
def bZero : Bn := ⟨[], 0, 0⟩
/-- the binding of a name; the zero binding if there is none -/
def fdB (bs : List Bn) (n : List UInt8) : Bn := (bs.find? (isN n)).getD bZero
def fdIs (bs : List Bn) (n : List UInt8) : Bool := (bs.find? (isN n)).isSome
theorem Bn.box {w wr : World} {x0 x1 x2 : Value} {t : TypeId} (h : Ext (w.alloc (.cells #[x0, x1, x2] t)) wr) :
    wr.cell? ⟨w.heap.size, 0, none⟩ = some x0 ∧ wr.cell? ⟨w.heap.size, 1, none⟩ = some x1 ∧ wr.cell? ⟨w.heap.size, 2, none⟩ = some x2 ∧ Ext w wr := by
  have hb : wr.heap[w.heap.size]? = some (.cells #[x0, x1, x2] t (0, 0)) := (h.below.block _ (by simp)).trans (alloc_here _ _)
  exact ⟨cell_of hb rfl, cell_of hb rfl, cell_of hb rfl, Ext.trans ((Below.refl w.heap.size w).alloc (Nat.le_refl _) _) h⟩

end Go.Proofs.YtmokejjndkibhaaGreatDoor

namespace Go.Proofs.YtmokejjndkibhaaGreatDoor
open Go.RowKit
set_option linter.unusedVariables false
set_option linter.unusedSimpArgs false

end Go.Proofs.YtmokejjndkibhaaGreatDoor

namespace Go.Proofs.YtmokejjndkibhaaGreatDoor
open Go.RowKit
set_option linter.unusedVariables false
set_option linter.unusedSimpArgs false

end Go.Proofs.YtmokejjndkibhaaGreatDoor

namespace Go.Proofs.YtmokejjndkibhaaGreatDoor
open Go.RowKit
set_option linter.unusedVariables false
set_option linter.unusedSimpArgs false

end Go.Proofs.YtmokejjndkibhaaGreatDoor

namespace Go.Proofs.YtmokejjndkibhaaGreatDoor
open Go.RowKit
set_option linter.unusedVariables false

theorem getD_false (m j : Nat) : (Array.replicate m false).getD j false = false := by
  rcases Nat.lt_or_ge j m with h | h <;> simp [h]
/-- each edge leads back -/
def backB (l : List Oper) : Bool := l.zipIdx.all fun (o, i) => o.after.toList.all fun e => !Region.binds .any e || decide (e.on < i)
theorem backB_spec {l : List Oper} (h : backB l = true) {i : Nat} {o : Oper} (ho : l[i]? = some o) {e : Edge} (he : e ∈ o.after) (hb : Region.binds .any e = true) : e.on < i := by
  unfold backB at h
  rw [List.all_eq_true] at h
  have h1 := h (o, i) (List.mem_zipIdx_iff_getElem?.2 (by simpa using ho))
  simp only [List.all_eq_true, Bool.or_eq_true, Bool.not_eq_true', decide_eq_true_eq] at h1
  rcases h1 e (by simpa using he) with h2 | h2
  · rw [hb] at h2; cases h2
  · exact h2

/-- no slot is written twice -/
def uniqB (l : List Oper) : Bool := l.zipIdx.all fun (o, i) => l.zipIdx.all fun (p, j) => decide (i = j) || (o.dst.isNone || decide (o.dst ≠ p.dst))
theorem uniqB_spec {l : List Oper} (h : uniqB l = true) {i j : Nat} {o p : Oper} (ho : l[i]? = some o) (hp : l[j]? = some p) {d : Nat} (hd : o.dst = some d) (hd' : p.dst = some d) : i = j := by
  unfold uniqB at h
  rw [List.all_eq_true] at h
  have h1 := h (o, i) (List.mem_zipIdx_iff_getElem?.2 (by simpa using ho))
  rw [List.all_eq_true] at h1
  have h2 := h1 (p, j) (List.mem_zipIdx_iff_getElem?.2 (by simpa using hp))
  simpa [hd, hd'] using h2
/-- what holds at an operation: l the operations, w the world ahead of the region, a the frame ahead of it -/
structure At (l : List Oper) (Φ : Nat → Value → World → Prop) (a : Act) (w : World) (i : Nat) (o : Oper) (a' : Act) (W : World) : Prop where
  ext : Ext w W
  size : a'.tmps.size = a.tmps.size
  defers : a'.defers = a.defers
  /-- a slot that no operation of the region writes, or one that waits for this one -/
  old : ∀ d, (∀ (j : Nat) oj, l[j]? = some oj → oj.dst = some d → ∃ e ∈ oj.after, Region.binds .any e = true ∧ e.on = i) → a'.tmps.getD d undef = a.tmps.getD d undef
  /-- what this one waits for -/
  new : ∀ (j : Nat) oj d, l[j]? = some oj → oj.dst = some d → (∃ e ∈ o.after, Region.binds .any e = true ∧ e.on = j) → Φ j (a'.tmps.getD d undef) W

theorem At.get {l : List Oper} {Φ : Nat → Value → World → Prop} {a : Act} {w : World} {i : Nat} {o : Oper} {a' : Act} {W : World} (h : At l Φ a w i o a' W) (j d : Nat) (h1 : (l[j]?).bind (·.dst) = some d) (h2 : (o.after.toList.any fun e => Region.binds .any e && decide (e.on = j)) = true) : Φ j (a'.eval (.tmp d)) W := by
  obtain ⟨oj, hj, hd⟩ := Option.bind_eq_some_iff.1 h1
  obtain ⟨e, he, hb⟩ := List.any_eq_true.1 h2
  simp only [Bool.and_eq_true, decide_eq_true_eq] at hb
  exact h.new j oj d hj hd ⟨e, by simpa using he, hb.1, hb.2⟩
theorem At.keep {l : List Oper} {Φ : Nat → Value → World → Prop} {a : Act} {w : World} {i : Nat} {o : Oper} {a' : Act} {W : World} (h : At l Φ a w i o a' W) (d : Nat)
    (h1 : (l.all fun oj => decide (oj.dst ≠ some d) || oj.after.toList.any fun e => Region.binds .any e && decide (e.on = i)) = true) : a'.eval (.tmp d) = a.eval (.tmp d) := by
  refine h.old d (fun j oj hj hd => ?_)
  have := List.all_eq_true.1 h1 oj (List.mem_of_getElem? hj)
  simp only [Bool.or_eq_true, decide_eq_true_eq] at this
  rcases this with h2 | h2
  · exact absurd hd h2
  · obtain ⟨e, he, hb⟩ := List.any_eq_true.1 h2
    simp only [Bool.and_eq_true, decide_eq_true_eq] at hb
    exact ⟨e, by simpa using he, hb.1, hb.2⟩

/-- one operation -/
def Goes (P : Program) (l : List Oper) (Φ : Nat → Value → World → Prop) (i : Nat) (o : Oper) (a' : Act) (W : World) (Q : Exit → Act → World → Prop) : Prop :=
  if Region.wanted o (yielded l.toArray a'.tmps) then o.wp P a' W (fun a2 W2 => ∃ v, a2 = a'.put o.dst v ∧ Φ i v W2 ∧ Ext W W2) Q
  else Φ i undef W

theorem count_set (l : List Bool) (i : Nat) (h : l[i]? = some false) : (l.set i true).count false + 1 = l.count false := by
  induction l generalizing i with
  | nil => simp at h
  | cons b l ih =>
    cases i with
    | zero =>
      obtain rfl : b = false := by simpa using h
      simp
    | succ i =>
      have := ih i (by simpa using h)
      simp only [List.set_cons_succ, List.count_cons]
      omega

theorem all_listed {l : List Oper} (hback : backB l = true) {listed : Array Bool} (hs : listed.size = l.length) (h0 : Region.ready .any l.toArray listed = []) : ∀ i, i < l.length → listed.getD i false = true := by
  intro i
  induction i using Nat.strongRecOn with
  | ind i ih =>
    intro hi
    cases hl : listed.getD i false with
    | true => rfl
    | false =>
      exfalso
      have hm : i ∈ Region.ready .any l.toArray listed := by
        rw [mem_ready]
        refine ⟨?_, l[i], by simp [hi], fun e he hb => ?_⟩
        · have : i < listed.size := by omega
          simp only [Array.getD_eq_getD_getElem?, Array.getElem?_eq_getElem this, Option.getD_some] at hl ⊢
          exact hl
        · have := backB_spec hback (i := i) (o := l[i]) (by simp [hi]) he hb
          exact ih e.on this (by omega)
      rw [h0] at hm
      cases hm

theorem put_self {a : Act} {o : Option Tmp} {v : Value} {d : Nat} (h : o = some d) (hd : d < a.tmps.size) : (a.put o v).tmps.getD d undef = v := by
  subst h
  simp [Act.put, Array.getD_eq_getD_getElem?, hd]
theorem put_other {a : Act} {o : Option Tmp} {v : Value} {d : Nat} (h : o ≠ some d) : (a.put o v).tmps.getD d undef = a.tmps.getD d undef := by
  cases o with
  | none => rfl
  | some x =>
    have : x ≠ d := fun e => h (by rw [e])
    simp [Act.put, Array.getD_eq_getD_getElem?, Array.getElem?_setIfInBounds_ne this]
theorem put_size {a : Act} {o : Option Tmp} {v : Value} : (a.put o v).tmps.size = a.tmps.size := by
  cases o <;> simp [Act.put]
theorem put_defers {a : Act} {o : Option Tmp} {v : Value} : (a.put o v).defers = a.defers := by
  cases o <;> simp [Act.put]

/-- the frame behind the region, its values given -/
def putAll : List Oper → List Value → Act → Act
  | o :: l, v :: vs, a => putAll l vs (a.put o.dst v)
  | _, _, a => a
theorem putAll_size : ∀ (l : List Oper) (vs : List Value) (a : Act), (putAll l vs a).tmps.size = a.tmps.size
  | [], _, _ => rfl
  | _ :: _, [], _ => rfl
  | o :: l, v :: vs, a => by rw [putAll, putAll_size l vs, put_size]
theorem putAll_defers : ∀ (l : List Oper) (vs : List Value) (a : Act), (putAll l vs a).defers = a.defers
  | [], _, _ => rfl
  | _ :: _, [], _ => rfl
  | o :: l, v :: vs, a => by rw [putAll, putAll_defers l vs, put_defers]
theorem putAll_other : ∀ (l : List Oper) (vs : List Value) (a : Act) (d : Nat), (∀ o ∈ l, o.dst ≠ some d) → (putAll l vs a).tmps.getD d undef = a.tmps.getD d undef
  | [], _, _, _, _ => rfl
  | _ :: _, [], _, _, _ => rfl
  | o :: l, v :: vs, a, d, h => by
    rw [putAll, putAll_other l vs _ d (fun o' ho' => h o' (List.mem_cons_of_mem _ ho')), put_other (h o (List.mem_cons_self ..))]
theorem putAll_self : ∀ (l : List Oper) (vs : List Value) (a : Act) (j : Nat) (o : Oper) (d : Nat), vs.length = l.length → l[j]? = some o → o.dst = some d → (∀ (i : Nat) p, l[i]? = some p → p.dst = some d → i = j) → d < a.tmps.size →
    (putAll l vs a).tmps.getD d undef = vs.getD j undef
  | [], _, _, j, _, _, _, h, _, _, _ => by simp at h
  | _ :: _, [], _, _, _, _, hl, _, _, _, _ => by simp at hl
  | o :: l, v :: vs, a, 0, p, d, hl, h, hd, hu, hs => by
    obtain rfl : o = p := by simpa using h
    rw [putAll, putAll_other l vs _ d (fun q hq e => by
      obtain ⟨i, hi⟩ := List.getElem?_of_mem hq
      have := hu (i + 1) q (by simpa using hi) e
      omega), put_self hd hs]
    rfl
  | o :: l, v :: vs, a, j + 1, p, d, hl, h, hd, hu, hs => by
    rw [putAll, putAll_self l vs _ j p d (by simpa using hl) (by simpa using h) hd (fun i q hq e => by
      have := hu (i + 1) q (by simpa using hq) e
      omega) (by rw [put_size]; exact hs)]
    rfl

theorem act_eq {a b : Act} (hs : a.tmps.size = b.tmps.size) (hd : a.defers = b.defers) (h : ∀ d, d < a.tmps.size → a.tmps.getD d undef = b.tmps.getD d undef) : a = b := by
  obtain ⟨ta, da⟩ := a
  obtain ⟨tb, db⟩ := b
  simp only at hs hd h
  have : ta = tb := by
    apply Array.ext hs
    intro i h1 h2
    have := h i h1
    simpa [Array.getD_eq_getD_getElem?, h1, h2] using this
  rw [this, hd]

theorem Goes.value {P : Program} {l : List Oper} {Φ : Nat → Value → World → Prop} {i : Nat} {o : Oper} {a' : Act} {W W' : World} {Q : Exit → Act → World → Prop} (v : Value) (hg : o.guard = none) (hrun : (execOp a'.eval o).run P W = .ok (.value v) W') (hΦ : Φ i v W') (hE : Ext W W') : Goes P l Φ i o a' W Q := by
  unfold Goes
  rw [if_pos (by simp [Region.wanted, hg])]
  unfold Oper.wp
  rw [hrun]
  exact ⟨v, rfl, hΦ, hE⟩
theorem Goes.move {P : Program} {l : List Oper} {Φ : Nat → Value → World → Prop} {i : Nat} {o : Oper} {a' : Act} {W : World} {Q : Exit → Act → World → Prop} (x : Operand) (hg : o.guard = none) (hop : o.op = .move x) (hΦ : Φ i (a'.eval x) W) : Goes P l Φ i o a' W Q :=
  Goes.value _ hg (BigFrame.run_move x hop _) hΦ (Below.refl _ _)
theorem Goes.call {P : Program} {l : List Oper} {Φ : Nat → Value → World → Prop} {i : Nat} {o : Oper} {a' : Act} {W : World} {Q : Exit → Act → World → Prop} (f : FuncId) (args : Array Value) (v : Value) (hg : o.guard = none) (hrun : (execOp a'.eval o).run P W = .ok (.enter f args) W) (hc : Gives P f args W v) (hΦ : ∀ W', Ext W W' → Φ i v W') : Goes P l Φ i o a' W Q := by
  unfold Goes
  rw [if_pos (by simp [Region.wanted, hg])]
  unfold Oper.wp
  rw [hrun]
  exact hc.mono fun W' hb => ⟨v, rfl, hΦ W' hb, hb⟩

end Go.Proofs.YtmokejjndkibhaaGreatDoor

