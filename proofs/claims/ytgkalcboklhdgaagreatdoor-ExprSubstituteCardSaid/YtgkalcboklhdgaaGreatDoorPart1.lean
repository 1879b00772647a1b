/- Lemmas and walks for the statements of this seat, part 1, merged from smaller texts: Frame relations between two worlds of the model, used by all the walks of this seat: 'Turn k o w w'' (block k now holds o, every other old block is as it was).; Regions that draw their order and whose calls leave old memory as it was; strings turned into slices of bytes.; Expressions: the plain tree, and what it is in memory.; Names: the reference's IsName, expr's isName.; Names: expr's isName.; Maps with int keys: a store of a new key, and a look-up, at entries that are known.; The walk's law for a store of a new key; where a map lies.; The makers of operators: number, divide, truth.; The operators with two arguments: the map that operators() makes.; operators(): the map.; What the operators compute.; Bindings: plain, and in memory.; expr's bound, the reference's CheckBindings.; The reference's CheckBindings.; Bindings: the look-up of a name.; The reference's find.; What the operators compute: comparisons, times, the makers' closures. -/
import Derived.Below
import Derived.OneCell
import Derived.WalkSmall
import Derived.WalkKit
import Derived.Lib.Hide
import Derived.WalkSpells
import Derived.Deep.QuietTactic
import Derived.BigQuiet
import Derived.Laws.IdiomStrings
import Derived.OwnWalk
import Derived.Test.YtgkalcboklhdgaaGreatDoorRows
import Derived.Laws.RangeAny
import Derived.Laws.RangeString
import Derived.Maps.Own
import Derived.Maps.OwnIn
import Derived.Carry
import Derived.WalkLawsBesides

namespace Go.Proofs.YtgkalcboklhdgaaGreatDoor
open Go.RowKit

/-- Block k holds o in w'; every other block that was there is as it was. -/
structure Turn (k : Nat) (o : Obj) (w w' : World) : Prop where
  os : w'.os = w.os
  tape : w'.tape = w.tape
  output : w'.output = w.output
  size : w.heap.size ≤ w'.heap.size
  here : w'.heap[k]? = some o
  other : ∀ j, j < w.heap.size → j ≠ k → w'.heap[j]? = w.heap[j]?

theorem Turn.refl {k : Nat} {o : Obj} {w : World} (h : w.heap[k]? = some o) : Turn k o w w := ⟨rfl, rfl, rfl, Nat.le_refl _, h, fun _ _ _ => rfl⟩
theorem Turn.trans {k : Nat} {o o' : Obj} {a b c : World} (h : Turn k o a b) (g : Turn k o' b c) : Turn k o' a c :=
  ⟨g.os.trans h.os, g.tape.trans h.tape, g.output.trans h.output, Nat.le_trans h.size g.size, g.here, fun j hj hk => (g.other j (Nat.lt_of_lt_of_le hj h.size) hk).trans (h.other j hj hk)⟩
theorem Turn.lt {k : Nat} {o : Obj} {w w' : World} (h : Turn k o w w') : k < w'.heap.size := lt_of_block h.here
theorem Turn.below {k B : Nat} {o : Obj} {w w' : World} (h : Turn k o w w') (hk : B ≤ k) (hB : B ≤ w.heap.size) : Below B w w' :=
  ⟨h.os, h.tape, h.output, h.size, fun j hj => h.other j (by omega) (by omega)⟩
theorem Turn.drew {k : Nat} {o : Obj} {a w : World} (h : Turn k o a w) : Turn k o a w.drew := ⟨h.os, h.tape, h.output, h.size, h.here, h.other⟩
theorem Turn.drewN {k : Nat} {o : Obj} {a w : World} (h : Turn k o a w) (n : Nat) : Turn k o a (w.drewN n) := ⟨h.os, h.tape, h.output, h.size, h.here, h.other⟩
theorem Turn.alloc {k : Nat} {o : Obj} {a w : World} (h : Turn k o a w) (x : Obj) : Turn k o a (w.alloc x) :=
  ⟨h.os, h.tape, h.output, by have := h.size; simp; omega, (Below.heap_alloc _ _ _ h.lt).trans h.here, fun j hj hk => (Below.heap_alloc _ _ _ (Nat.lt_of_lt_of_le hj h.size)).trans (h.other j hj hk)⟩
theorem Turn.of_below {k : Nat} {o : Obj} {a w w' : World} (h : Turn k o a w) (hb : Below w.heap.size w w') : Turn k o a w' :=
  ⟨hb.os.trans h.os, hb.tape.trans h.tape, hb.output.trans h.output, Nat.le_trans h.size hb.size, (hb.block k h.lt).trans h.here, fun j hj hk => (hb.block j (Nat.lt_of_lt_of_le hj h.size)).trans (h.other j hj hk)⟩
/-- a store into block k -/
theorem Turn.setCell {k i : Nat} {c : Array Value} {t : TypeId} {f : Nat × Nat} {a w : World} (h : Turn k (.cells c t f) a w) (u : Value) : Turn k (.cells (c.setIfInBounds i u) t f) a (w.setCell ⟨k, i, none⟩ u) := by
  refine ⟨h.os, h.tape, h.output, by have := h.size; simp [World.setCell]; omega, ?_, fun j hj hk => ?_⟩
  · simp only [World.setCell, Array.getElem?_modify, if_true, h.here]
    rfl
  · exact (Below.heap_setCell _ _ _ _ hk).trans (h.other j hj hk)

theorem cell_of {w : World} {k i : Nat} {c : Array Value} {t : TypeId} {f : Nat × Nat} {v : Value} (h : w.heap[k]? = some (.cells c t f)) (hv : c[i]? = some v) : w.cell? ⟨k, i, none⟩ = some v := by
  simp [World.cell?, h, hv]
theorem free_of {w : World} {k i : Nat} {c : Array Value} {t : TypeId} (h : w.heap[k]? = some (.cells c t (0, 0))) : w.frozen? ⟨k, i, none⟩ = false := by
  simp [World.frozen?, h]
theorem alloc_here (w : World) (o : Obj) : (w.alloc o).heap[w.heap.size]? = some o := by show (w.heap.push o)[w.heap.size]? = _; simp

/-- a string by the list of its bytes -/
def sB (l : List UInt8) : ByteArray := ⟨l.toArray⟩
abbrev sV (l : List UInt8) : Value := .string (sB l)
theorem sB_of (s : ByteArray) : ∃ l, s = sB l := ⟨s.data.toList, rfl⟩
theorem sB_size (l : List UInt8) : (sB l).size = l.length := by simp [sB, ByteArray.size]
theorem sB_app (a b : List UInt8) : sB a ++ sB b = sB (a ++ b) := by
  apply ByteArray.ext
  apply Array.toList_inj.1
  simp [sB]
theorem sB_get (l : List UInt8) (i : Nat) (h : i < (sB l).size) : (sB l)[i] = l[i]'(by rw [sB_size] at h; exact h) := rfl
theorem sB_inj {a b : List UInt8} : sB a = sB b ↔ a = b := by
  constructor
  · intro h; have := congrArg (fun s : ByteArray => s.data.toList) h; simpa [sB] using this
  · rintro rfl; rfl
theorem sB_extract (l : List UInt8) (a b : Nat) : (sB l).extract a b = sB ((l.take b).drop a) := by
  apply ByteArray.ext
  apply Array.toList_inj.1
  simp [sB, List.extract, List.drop_take]
theorem sB_data (l : List UInt8) : (sB l).data.toList = l := by simp [sB]
theorem sB_toList (l : List UInt8) : (sB l).toList = l := by rw [ByteArray.toList_eq, sB_data]
theorem sB_nil : (ByteArray.mk #[]) = sB [] := rfl
attribute [go_sem] sB_size sB_app sB_get sB_extract sB_data sB_toList

theorem bcell {W w1 : World} (hb : Below W.heap.size W w1) : (∀ b o, b < W.heap.size → w1.cell? ⟨b, o, none⟩ = W.cell? ⟨b, o, none⟩) ∧ (∀ b o, b < W.heap.size → w1.frozen? ⟨b, o, none⟩ = W.frozen? ⟨b, o, none⟩) :=
  ⟨fun b o h => hb.cell (p := ⟨b, o, none⟩) h, fun b o h => hb.frozen (p := ⟨b, o, none⟩) h⟩

/-- a call that leaves old memory as it was -/
def Gives (P : Program) (f : FuncId) (args : Array Value) (w : World) (v : Value) : Prop :=
  Calls P f args w fun e w' => e = .returned v ∧ Below w.heap.size w w'

theorem Gives.mono {P : Program} {f : FuncId} {args : Array Value} {w : World} {v : Value} (h : Gives P f args w v) {R : Ending → World → Prop}
    (hr : ∀ w', Below w.heap.size w w' → R (.returned v) w') : Calls P f args w R :=
  Calls.mono h (fun e w' h => by obtain ⟨rfl, hb⟩ := h; exact hr w' hb)

theorem tdiv_neg_eq (n : Int) (h : n < 0) (k : Int) : n.tdiv k = -((-n) / k) := by
  have h1 : n = -(-n) := by omega
  conv => lhs; rw [h1]
  rw [Int.neg_tdiv, Int.tdiv_eq_ediv_of_nonneg (by omega)]
theorem tmod_neg_eq (n : Int) (h : n < 0) (k : Int) : n.tmod k = -((-n) % k) := by
  have h1 : n = -(-n) := by omega
  conv => lhs; rw [h1]
  rw [Int.neg_tmod, Int.tmod_eq_emod_of_nonneg (by omega)]
theorem wrapi {x : Int} (h1 : -9223372036854775808 ≤ x) (h2 : x ≤ 9223372036854775807) : IntKind.i64.wrap x = x := IntWalk.i64_in _ ⟨h1, h2⟩
theorem i64_bd {n : Int} (h : (Lit.int .i64 n).wf = true) : -9223372036854775808 ≤ n ∧ n ≤ 9223372036854775807 := by
  simpa [Lit.wf, IntKind.min, IntKind.max, IntKind.signed, IntKind.bits] using h

end Go.Proofs.YtgkalcboklhdgaaGreatDoor

namespace Go.Proofs.YtgkalcboklhdgaaGreatDoor
open Go.RowKit
set_option linter.unusedVariables false

/-- W has all that w had -/
def Ext (w W : World) : Prop := Below w.heap.size w W
theorem Ext.below {w W : World} (h : Ext w W) : Below w.heap.size w W := h
theorem Ext.call {P : Program} {f : FuncId} {args : Array Value} {w0 W : World} {v : Value} (h : Gives P f args W v) (hW : Ext w0 W) : Calls P f args W fun e w'' => e = .returned v ∧ Ext w0 w'' :=
  h.mono fun w' hb => ⟨rfl, Below.trans hW (hb.mono hW.size)⟩

theorem Ext.undrew {w W : World} (h : Ext w.drew W) : Ext w W := ⟨h.os, h.tape, h.output, h.size, h.block⟩
theorem Ext.undrewN {w W : World} {n : Nat} (h : Ext (w.drewN n) W) : Ext w W := ⟨h.os, h.tape, h.output, h.size, h.block⟩
theorem Ext.drewN' {w W : World} {n : Nat} (h : Ext w W) : Ext w (W.drewN n) := ⟨h.os, h.tape, h.output, h.size, h.block⟩
theorem Ext.trans {a b c : World} (h : Ext a b) (g : Ext b c) : Ext a c := Below.trans h (g.below.mono h.size)

theorem wp_region_ext {P : Program} {id : Nat} {Q : Exit → Act → World → Prop} {a : Act} {w : World} {l : List Oper} (hm : P.follows .mixedOrders = true) (hB : Region.lexB .any l.toArray = true)
    (h : wpQuiet P l.toArray (Ext w) (fun a' => ∀ w', Ext w w' → Q .normal a' w') l a) : (Code.region id l.toArray true).wp P Q a w :=
  wp_region_quiet (C := Ext w) hm hB (⟨rfl, rfl, rfl, Nat.le_refl _, fun _ _ => rfl⟩) (by simpa using h)

/-- a world that has all that w had: the class of the worlds of a region -/
structure Up (w : World) where
  W : World
  ext : Ext w W
instance (w : World) : Nonempty (Up w) := ⟨⟨w, Below.refl _ _⟩⟩
theorem Up.call {P : Program} {f : FuncId} {args : Array Value} {w : World} {v : Value} {U : Up w} (h : Gives P f args U.W v) : Calls P f args U.W fun e w'' => e = .returned v ∧ ∃ U' : Up w, w'' = U'.W :=
  h.mono fun w' hb => ⟨rfl, ⟨w', Below.trans U.ext (hb.mono U.ext.size)⟩, rfl⟩
theorem Up.cell {w : World} {a : Addr} {v : Value} (h : w.cell? a = some v) (U : Up w) : U.W.cell? a = some v := by
  have hb : a.block < w.heap.size := by
    unfold World.cell? at h
    split at h
    · rename_i hx; exact lt_of_block hx
    · cases h
  exact (U.ext.below.cell hb).trans h
theorem wp_region_up {P : Program} {id : Nat} {Q : Exit → Act → World → Prop} {a : Act} {w : World} {l : List Oper} (hm : P.follows .mixedOrders = true) (hB : Region.lexB .any l.toArray = true)
    (h : wpQuiet P l.toArray (fun W => ∃ U : Up w, W = U.W) (fun a' => ∀ w', (∃ U : Up w, w' = U.W) → Q .normal a' w') l a) : (Code.region id l.toArray true).wp P Q a w :=
  wp_region_quiet (C := fun W => ∃ U : Up w, W = U.W) hm hB ⟨⟨{ w with drawn := w.drawn + 1 }, ⟨rfl, rfl, rfl, Nat.le_refl _, fun _ _ => rfl⟩⟩, rfl⟩ (by simpa using h)

/-- an operation that is no call, and yields the same value in each world of the class -/
theorem quiet_value {P : Program} {C : World → Prop} {K : Act → Prop} {o : Oper} {a : Act} (v : Value) (h : ∀ w, C w → (execOp a.eval o).run P w = .ok (.value v) w) (hk : K (a.put o.dst v)) : o.quiet P a C K :=
  ⟨v, fun w hw => by unfold Oper.quietAt; rw [h w hw]; exact ⟨rfl, rfl⟩, hk⟩

theorem quiet_convert {P : Program} {C : World → Prop} {K : Act → Prop} {o : Oper} {a : Act} {src dst : TypeId} {x : Operand} (hop : o.op = .convert src dst x) {v0 : Value} (hx : a.eval x = v0) (v : Value)
    (h : ∀ w, C w → (convert src dst v0).run P w = .ok v w) (hk : K (a.put o.dst v)) : o.quiet P a C K :=
  quiet_value v (fun w hw => by simp only [execOp, hop, hx, Sem.run_bind, h w hw, Result.andThen, Sem.run_pure]) hk

theorem free_mark {w : World} {k i lo hi : Nat} {c : Array Value} {t : TypeId} (h : w.heap[k]? = some (.cells c t (lo, hi))) (hl : i < lo) : w.frozen? ⟨k, i, none⟩ = false := by
  simp [World.frozen?, h]; omega
/-- the cells of block g begin with the bytes l, and may be written -/
def BytesAt (w : World) (g : Nat) (l : List UInt8) : Prop := ∀ i (h : i < l.length), w.cell? ⟨g, i, none⟩ = some (.int .u8 (l[i].toNat : Int)) ∧ w.frozen? ⟨g, i, none⟩ = false

theorem BytesAt.conv {P : Program} {w : World} {g : Nat} {l : List UInt8} (h : BytesAt w g l) {src dst e : TypeId} (hs : P.underlying src = some (.slice e)) (he : P.underlying e = some (.int .u8)) (hd : P.underlying dst = some .string) (n cap : Nat) (hn : n = l.length) :
    (convert src dst (.slice (some ⟨g, 0, none⟩) n cap)).run P w = .ok (sV l) w := by
  subst hn
  refine run_convert_bytes_back w src dst e ⟨g, 0, none⟩ cap l hs he hd (fun j hj => ?_)
  have := (h j hj).1
  unfold Addr.add
  split
  · rename_i h0; subst h0; exact this
  · simpa using this

theorem BytesAt.set {w : World} {g : Nat} {l : List UInt8} (h : BytesAt w g l) (i : Nat) (b : UInt8) (hi : i < l.length) : BytesAt (w.setCell ⟨g, i, none⟩ (.int .u8 (b.toNat : Int))) g (l.set i b) := by
  intro j hj
  have hj' : j < l.length := by simpa using hj
  obtain ⟨h1, h2⟩ := h j hj'
  refine ⟨?_, by rw [World.frozen?_setCell]; exact h2⟩
  by_cases e : i = j
  · subst e
    rw [List.getElem_set_self]
    exact World.cell?_setCell_same' _ _ _ (by rw [h1]; rfl)
  · rw [List.getElem_set_ne e]
    rw [World.cell?_setCell_other w ⟨g, i, none⟩ ⟨g, j, none⟩ _ (by intro h0; apply e; exact congrArg Addr.off h0)]
    exact h1

theorem BytesAt.ext {w W : World} {g : Nat} {l : List UInt8} (h : BytesAt w g l) (hg : g < w.heap.size) (hW : Ext w W) : BytesAt W g l := fun i hi =>
  ⟨(hW.below.cell (p := ⟨g, i, none⟩) hg).trans (h i hi).1, (hW.below.frozen (p := ⟨g, i, none⟩) hg).trans (h i hi).2⟩

/-- '[]byte(s)': a new block with the bytes -/
theorem wpList_strbytes {P : Program} {ops : Array Oper} {Q : Exit → Act → World → Prop} {rest : List Oper} {o : Oper} {a : Act} {w : World} (hg : o.guard = none) (src dst e : TypeId) (x : Operand) (hop : o.op = .convert src dst x)
    (l : List UInt8) (hx : a.eval x = sV l) (hs : P.underlying src = some .string) (hd : P.underlying dst = some (.slice e)) (he : P.underlying e = some (.int .u8))
    (hK : ∀ W g cap, Ext w W → w.heap.size ≤ g → g < W.heap.size → BytesAt W g l → wpList P ops Q rest (a.put o.dst (.slice (some ⟨g, 0, none⟩) l.length cap)) W) : wpList P ops Q (o :: rest) a w := by
  refine wpList_plain hg fun K hK' => ?_
  have hrun := run_bytes_of_string (P := P) w src dst e (sB l) hs hd he
  unfold Oper.wp
  simp only [execOp, hop, hx]
  simp only [Sem.run_bind, hrun, Result.andThen, Sem.run_pure, Oper.upon]
  refine hK' _ _ ?_
  rw [sB_size]
  refine hK _ _ _ ?_ (Nat.le_refl _) ?_ ?_
  · exact ((Below.refl _ w).drew).alloc (Nat.le_refl _) _
  · simp
  · intro i hi
    have hA := alloc_here w.drew (.cells (bytesRow (sB l) (grownCap w l.length 0 e)) e ((bytesRow (sB l) (grownCap w l.length 0 e)).size, (bytesRow (sB l) (grownCap w l.length 0 e)).size + 1))
    have hsz : i < (bytesRow (sB l) (grownCap w l.length 0 e)).size := by simp [bytesRow, sB]; omega
    refine ⟨cell_of hA ?_, ?_⟩
    · simp [bytesRow, sB, Array.getElem?_append, hi]
    · exact free_mark hA hsz

end Go.Proofs.YtgkalcboklhdgaaGreatDoor

namespace Go.Proofs.YtgkalcboklhdgaaGreatDoor
open Go.RowKit
set_option linter.unusedVariables false
set_option linter.unusedSimpArgs false

inductive Ex where
  | mk (kind op : Int) (name : List UInt8) (value : Int) (args : List Ex)
namespace Ex
def kind : Ex → Int | .mk k _ _ _ _ => k
def op : Ex → Int | .mk _ o _ _ _ => o
def name : Ex → List UInt8 | .mk _ _ n _ _ => n
def value : Ex → Int | .mk _ _ _ v _ => v
def args : Ex → List Ex | .mk _ _ _ _ ts => ts
mutual
def size : Ex → Nat
  | .mk _ _ _ _ ts => 1 + sizes ts
def sizes : List Ex → Nat
  | [] => 0
  | e :: es => e.size + sizes es
end
mutual
def height : Ex → Nat
  | .mk _ _ _ _ ts => 1 + heights ts
def heights : List Ex → Nat
  | [] => 0
  | e :: es => max e.height (heights es)
end
theorem size_pos (e : Ex) : 1 ≤ e.size := by cases e; simp only [size]; omega
theorem height_pos (e : Ex) : 1 ≤ e.height := by cases e; simp only [height]; omega
theorem sizes_snoc (es : List Ex) (e : Ex) : sizes (es ++ [e]) = sizes es + e.size := by
  induction es with
  | nil => simp [sizes]
  | cons x es ih => simp only [List.cons_append, sizes, ih]; omega
theorem heights_snoc (es : List Ex) (e : Ex) : heights (es ++ [e]) = max (heights es) e.height := by
  induction es with
  | nil => simp [heights]
  | cons x es ih => simp only [List.cons_append, heights, ih]; omega
theorem sizes_take (es : List Ex) (j : Nat) (h : j < es.length) : sizes (es.take (j + 1)) = sizes (es.take j) + (es[j]).size := by
  rw [List.take_succ_eq_append_getElem h, sizes_snoc]
theorem heights_take (es : List Ex) (j : Nat) (h : j < es.length) : heights (es.take (j + 1)) = max (heights (es.take j)) (es[j]).height := by
  rw [List.take_succ_eq_append_getElem h, heights_snoc]
theorem sizes_mono (es : List Ex) (j : Nat) : sizes (es.take j) ≤ sizes es := by
  induction es generalizing j with
  | nil => simp
  | cons x es ih => cases j with
    | zero => simp [sizes]
    | succ j => simp only [List.take_succ_cons, sizes]; have := ih j; omega
theorem size_get (es : List Ex) (j : Nat) (h : j < es.length) : (es[j]).size ≤ sizes es := by
  have := sizes_take es j h; have := sizes_mono es (j + 1); omega
theorem size_args (e : Ex) : e.size = 1 + sizes e.args := by cases e; rfl
theorem height_args (e : Ex) : e.height = 1 + heights e.args := by cases e; rfl
mutual
theorem height_le : ∀ e : Ex, e.height ≤ e.size
  | .mk _ _ _ _ ts => by simp only [height, size]; have := heights_le ts; omega
theorem heights_le : ∀ es : List Ex, heights es ≤ sizes es
  | [] => Nat.le_refl _
  | e :: es => by simp only [heights, sizes]; have := height_le e; have := heights_le es; omega
end
def wf (x : Int) : Prop := -9223372036854775808 ≤ x ∧ x ≤ 9223372036854775807
/-- the cells of an expression, at an address: kind, operator, name, value, arguments -/
def cells (w : World) (b o : Nat) (e : Ex) (p : Option Addr) (c : Nat) : Prop :=
  w.cell? ⟨b, o, none⟩ = some (.int .i64 e.kind) ∧ w.cell? ⟨b, o + 1, none⟩ = some (.int .i64 e.op) ∧ w.cell? ⟨b, o + 2, none⟩ = some (sV e.name) ∧
  w.cell? ⟨b, o + 3, none⟩ = some (.int .i64 e.value) ∧ w.cell? ⟨b, o + 4, none⟩ = some (.slice p e.args.length c)
/-- numbers that fit, lengths that a machine has -/
def fits (e : Ex) : Prop := wf e.kind ∧ wf e.op ∧ e.name.length ≤ 140737488355328 ∧ wf e.value ∧ e.args.length ≤ 2199023255488
mutual
/-- the arguments of e lie at p -/
def At (w : World) (p : Option Addr) : Ex → Prop
  | .mk k o n x ts => fits (.mk k o n x ts) ∧ AtL w p 0 ts
/-- these expressions lie at p, from the i-th on -/
def AtL (w : World) (p : Option Addr) (i : Nat) : List Ex → Prop
  | [] => True
  | e :: es => (∃ b o q c, p = some ⟨b, o, none⟩ ∧ cells w b (o + i * 5) e q c ∧ At w q e) ∧ AtL w p (i + 1) es
end
theorem At.fit {w : World} {p : Option Addr} {e : Ex} (h : At w p e) : fits e := by cases e; exact h.1
theorem At.row {w : World} {p : Option Addr} {e : Ex} (h : At w p e) : AtL w p 0 e.args := by cases e; exact h.2
theorem AtL.get {w : World} {p : Option Addr} {es : List Ex} : ∀ {i : Nat}, AtL w p i es → ∀ j (h : j < es.length), ∃ b o q c, p = some ⟨b, o, none⟩ ∧ cells w b (o + (i + j) * 5) es[j] q c ∧ At w q es[j] := by
  induction es with
  | nil => intro i h j hj; simp at hj
  | cons e es ih =>
    intro i h j hj
    obtain ⟨h1, h2⟩ := h
    cases j with
    | zero => exact h1
    | succ j =>
      obtain ⟨b, o, q, c, e1, e2, e3⟩ := ih h2 j (by simpa using hj)
      exact ⟨b, o, q, c, e1, by rw [show i + (j + 1) = i + 1 + j by omega]; exact e2, e3⟩
theorem At.get {w : World} {p : Option Addr} {k o : Int} {n : List UInt8} {x : Int} {ts : List Ex} (h : At w p (.mk k o n x ts)) (j : Nat) (hj : j < ts.length) : ∃ b o q c, p = some ⟨b, o, none⟩ ∧ cells w b (o + j * 5) (ts[j]) q c ∧ At w q (ts[j]) := by
  have := AtL.get h.2 j hj
  simpa using this
theorem cell_lt' {w : World} {a : Addr} {v : Value} (h : w.cell? a = some v) : a.block < w.heap.size := by
  unfold World.cell? at h
  split at h
  · rename_i hx; exact lt_of_block hx
  · cases h
theorem cells.below {w W : World} {b o : Nat} {e : Ex} {p : Option Addr} {c : Nat} (h : cells w b o e p c) (hb : Below w.heap.size w W) : cells W b o e p c := by
  obtain ⟨h0, h1, h2, h3, h4⟩ := h
  have hl := cell_lt' h0
  exact ⟨(hb.cell (p := ⟨b, o, none⟩) hl).trans h0, (hb.cell (p := ⟨b, o + 1, none⟩) hl).trans h1, (hb.cell (p := ⟨b, o + 2, none⟩) hl).trans h2, (hb.cell (p := ⟨b, o + 3, none⟩) hl).trans h3, (hb.cell (p := ⟨b, o + 4, none⟩) hl).trans h4⟩
mutual
theorem At.below {w W : World} (hb : Below w.heap.size w W) : ∀ {p : Option Addr} {e : Ex}, At w p e → At W p e
  | _, .mk _ _ _ _ _, h => ⟨h.1, AtL.below hb h.2⟩
theorem AtL.below {w W : World} (hb : Below w.heap.size w W) : ∀ {p : Option Addr} {i : Nat} {es : List Ex}, AtL w p i es → AtL W p i es
  | _, _, [], _ => trivial
  | _, _, _ :: _, ⟨⟨b, o, q, c, e1, e2, e3⟩, h2⟩ => ⟨⟨b, o, q, c, e1, e2.below hb, At.below hb e3⟩, AtL.below hb h2⟩
end
/-- the value of an expression whose arguments lie at p -/
def val (e : Ex) (p : Option Addr) (c : Nat) : Value := .agg #[.int .i64 e.kind, .int .i64 e.op, sV e.name, .int .i64 e.value, .slice p e.args.length c]
end Ex
/-- a box of five values, laid ahead of wr -/
theorem Ext.box {w wr : World} {x0 x1 x2 x3 x4 : Value} {t : TypeId} (h : Ext (w.alloc (.cells #[x0, x1, x2, x3, x4] t)) wr) :
    wr.cell? ⟨w.heap.size, 0, none⟩ = some x0 ∧ wr.cell? ⟨w.heap.size, 1, none⟩ = some x1 ∧ wr.cell? ⟨w.heap.size, 2, none⟩ = some x2 ∧ wr.cell? ⟨w.heap.size, 3, none⟩ = some x3 ∧ wr.cell? ⟨w.heap.size, 4, none⟩ = some x4 ∧ Ext w wr := by
  have hb : wr.heap[w.heap.size]? = some (.cells #[x0, x1, x2, x3, x4] t (0, 0)) := (h.below.block _ (by simp)).trans (alloc_here _ _)
  exact ⟨cell_of hb rfl, cell_of hb rfl, cell_of hb rfl, cell_of hb rfl, cell_of hb rfl, Ext.trans ((Below.refl w.heap.size w).alloc (Nat.le_refl _) _) h⟩

end Go.Proofs.YtgkalcboklhdgaaGreatDoor

namespace Go.Proofs.YtgkalcboklhdgaaGreatDoor
open Go.RowKit
set_option linter.unusedVariables false
set_option linter.unusedSimpArgs false
open Ex

def letter (c : UInt8) : Bool := decide (97 ≤ c.toNat ∧ c.toNat ≤ 122)
def other (c : UInt8) : Bool := decide (48 ≤ c.toNat ∧ c.toNat ≤ 57) || decide (c.toNat = 95)
def okAt (i : Nat) (c : UInt8) : Bool := letter c || (decide (i ≠ 0) && other c)
/-- the first n bytes of l can begin a name -/
def okTo (l : List UInt8) : Nat → Bool
  | 0 => true
  | n + 1 => okTo l n && okAt n (l.getD n 0)
/-- a name: a letter, and letters, digits and underlines; 1 to 30 bytes -/
def isNm (l : List UInt8) : Bool := decide (1 ≤ l.length ∧ l.length ≤ 30) && okTo l l.length
theorem okTo_no (l : List UInt8) (j : Nat) (h : okAt j (l.getD j 0) = false) : ∀ n, j < n → okTo l n = false
  | 0, hj => by omega
  | n + 1, hj => by
    simp only [okTo]
    by_cases e : j = n
    · subst e; rw [h]; simp
    · rw [okTo_no l j h n (by omega)]; rfl
theorem isNm_no (l : List UInt8) (j : Nat) (hj : j < l.length) (h : okAt j l[j] = false) : isNm l = false := by
  unfold isNm
  rw [okTo_no l j (by rw [List.getD_eq_getElem?_getD, List.getElem?_eq_getElem hj]; exact h) _ hj]; simp
theorem okTo_yes (l : List UInt8) (j : Nat) (hj : j < l.length) (h0 : okTo l j = true) (h : okAt j l[j] = true) : okTo l (j + 1) = true := by
  simp only [okTo]
  rw [h0, List.getD_eq_getElem?_getD, List.getElem?_eq_getElem hj]; simpa using h
theorem isNm_end (l : List UInt8) (h : okTo l l.length = true) : isNm l = decide (1 ≤ l.length ∧ l.length ≤ 30) := by unfold isNm; rw [h]; simp

theorem okAt_no {j : Nat} {x : UInt8} (h1 : ¬ (97 ≤ (x.toNat : Int) ∧ (x.toNat : Int) ≤ 122)) (h2 : j = 0 ∨ ¬ ((48 ≤ (x.toNat : Int) ∧ (x.toNat : Int) ≤ 57) ∨ (x.toNat : Int) = 95)) : okAt j x = false := by
  simp [okAt, letter, other]; omega
theorem okAt_let {j : Nat} {x : UInt8} (h1 : 97 ≤ (x.toNat : Int) ∧ (x.toNat : Int) ≤ 122) : okAt j x = true := by
  simp [okAt, letter, other]; omega
theorem okAt_oth {j : Nat} {x : UInt8} (h0 : j ≠ 0) (h1 : (48 ≤ (x.toNat : Int) ∧ (x.toNat : Int) ≤ 57) ∨ (x.toNat : Int) = 95) : okAt j x = true := by
  simp [okAt, letter, other]; omega

set_option maxHeartbeats 2000000 in
theorem IsName_any (l : List UInt8) (w : World) : Gives Tryz.prog 51 #[sV l] w (.bool (isNm l)) := by
  unfold Gives
  by_cases hl : 1 ≤ l.length ∧ l.length ≤ 30
  · obtain ⟨hl1, hl2⟩ := hl
    have hne1 : ¬ l = [] := by rintro rfl; simp at hl1
    have hne2 : l.isEmpty = false := by simpa using hne1
    have HY := Lib.hid (okTo_yes l)
    have HN := Lib.hid (isNm_no l)
    have HE := Lib.hid (isNm_end l)
    generalize isNm l = r at *
    go_enter Tryz.func51, Tryz.ntmps51
    go_wp2
    go_loop [3] (fun i => ∃ j : Nat, j ≤ l.length ∧ i = .int .i64 (j : Int) ∧ okTo l j = true) (fun i => l.length - (intOf i).toNat)
    case atStart => exact ⟨0, Nat.zero_le _, rfl, rfl⟩
    case round =>
      obtain ⟨j, hj, rfl, hk⟩ := hrel
      have HK := Lib.hid hk
      clear hk
      by_cases hlt : j < l.length
      · have hy := Lib.hid (HY.out j hlt HK.out)
        have hn := Lib.hid (HN.out j hlt)
        have hc := (l[j]).toNat_lt
        by_cases hA : 97 ≤ ((l[j]).toNat : Int)
        · by_cases hB : ((l[j]).toNat : Int) ≤ 122
          · have hz := Lib.hid (hy.out (okAt_let ⟨hA, hB⟩))
            go_wp2
            go_round
            case rel => exact ⟨j + 1, by omega, by go_num, hz.out⟩
            case measure => simp [intOf]; omega
          · have hz := Lib.hid (hn.out (okAt_no (by omega) (.inr (by omega))))
            have h95 : (((l[j]).toNat : Int) == 95) = false := by rw [beq_eq_false_iff_ne]; omega
            by_cases h0 : j = 0
            · subst h0
              go_wp2
              go_ret
              exact ⟨by rw [hz.out]; rfl, Below.refl _ _⟩
            · have h0' : ¬ (j : Int) = 0 := by omega
              have h57 : ¬ ((l[j]).toNat : Int) ≤ 57 := by omega
              go_wp2
              all_goals (go_ret; exact ⟨by rw [hz.out]; rfl, Below.refl _ _⟩)
        · by_cases h0 : j = 0
          · have hz := Lib.hid (hn.out (okAt_no (by omega) (.inl h0)))
            subst h0
            go_wp2
            all_goals (go_ret; exact ⟨by rw [hz.out]; rfl, Below.refl _ _⟩)
          · have h0' : ¬ (j : Int) = 0 := by omega
            by_cases hC : ((l[j]).toNat : Int) = 95
            · have hz := Lib.hid (hy.out (okAt_oth h0 (.inr hC)))
              go_wp2
              go_round
              case rel => exact ⟨j + 1, by omega, by go_num, hz.out⟩
              case measure => simp [intOf]; omega
            · have h95 : (((l[j]).toNat : Int) == 95) = false := by rw [beq_eq_false_iff_ne]; omega
              by_cases hD : 48 ≤ ((l[j]).toNat : Int)
              · by_cases hE : ((l[j]).toNat : Int) ≤ 57
                · have hz := Lib.hid (hy.out (okAt_oth h0 (.inl ⟨hD, hE⟩)))
                  go_wp2
                  go_round
                  case rel => exact ⟨j + 1, by omega, by go_num, hz.out⟩
                  case measure => simp [intOf]; omega
                · have hz := Lib.hid (hn.out (okAt_no (by omega) (.inr (by omega))))
                  go_wp2
                  go_ret
                  exact ⟨by rw [hz.out]; rfl, Below.refl _ _⟩
              · have hz := Lib.hid (hn.out (okAt_no (by omega) (.inr (by omega))))
                go_wp2
                go_ret
                exact ⟨by rw [hz.out]; rfl, Below.refl _ _⟩
      · obtain rfl : j = l.length := by omega
        have hz := Lib.hid (HE.out HK.out)
        go_wp2
        go_ret
        exact ⟨by rw [hz.out]; simp [hl1, hl2], Below.refl _ _⟩
  · have hz := Lib.hid (show isNm l = false by unfold isNm; simp [hl])
    generalize isNm l = r at *
    by_cases h1 : l = []
    · subst h1
      go_enter Tryz.func51, Tryz.ntmps51
      go_wp2
      go_ret
      exact ⟨by rw [hz.out]; rfl, Below.refl _ _⟩
    · have hne2 : l.isEmpty = false := by simpa using h1
      have h2 : 30 < l.length := by have := List.length_pos_iff.2 h1; omega
      go_enter Tryz.func51, Tryz.ntmps51
      go_wp2
      go_ret
      exact ⟨by rw [hz.out]; rfl, Below.refl _ _⟩

end Go.Proofs.YtgkalcboklhdgaaGreatDoor

namespace Go.Proofs.YtgkalcboklhdgaaGreatDoor
open Go.RowKit
set_option linter.unusedVariables false
set_option linter.unusedSimpArgs false
open Ex

theorem letter_any (r : Int) (b : Bool) (hb : b = decide (97 ≤ r ∧ r ≤ 122)) (w : World) : Calls Tryz.prog 76 #[.int .i32 r] w fun e w' => e = .returned (.bool b) ∧ w' = w := by
  by_cases h1 : 97 ≤ r
  · by_cases h2 : r ≤ 122
    · have hz := Lib.hid (show b = true by rw [hb]; simp [h1, h2])
      clear hb
      go_enter Tryz.func76, Tryz.ntmps76
      go_wp2
      go_ret
      exact ⟨by rw [hz.out]; rfl, rfl⟩
    · have hz := Lib.hid (show b = false by rw [hb]; simp [h2])
      clear hb
      go_enter Tryz.func76, Tryz.ntmps76
      go_wp2
      go_ret
      exact ⟨by rw [hz.out]; rfl, rfl⟩
  · have hz := Lib.hid (show b = false by rw [hb]; simp [h1])
    clear hb
    go_enter Tryz.func76, Tryz.ntmps76
    go_wp2
    go_ret
    exact ⟨by rw [hz.out]; rfl, rfl⟩
theorem iter_ext (w : World) (s : ByteArray) (p : Nat) : Ext w (w.iter s p) := (Below.refl _ w).alloc (Nat.le_refl _) _

set_option maxRecDepth 100000 in
set_option maxHeartbeats 2000000 in
theorem isName_any (l : List UInt8) (w : World) (hl : l.length ≤ 140737488355328) : Gives Tryz.prog 53 #[sV l] w (.bool (isNm l)) := by
  unfold Gives
  have HY := Lib.hid (okTo_yes l)
  have HN := Lib.hid (isNm_no l)
  have HE := Lib.hid (isNm_end l)
  generalize isNm l = r at *
  go_enter Tryz.func53, Tryz.ntmps53
  go_wp2
  go_loopw [2] (fun _ wr => ∃ j : Nat, j ≤ l.length ∧ wr = w.iter (sB l) j ∧ okTo l j = true) (fun _ wr => l.length - wr.iterPos w.heap.size)
  case atStart => exact ⟨0, Nat.zero_le _, rfl, rfl⟩
  case round =>
    obtain ⟨j, hj, rfl, hk⟩ := hrel
    have HK := Lib.hid hk
    clear hk
    by_cases hlt : j < l.length
    · have hy := Lib.hid (HY.out j hlt HK.out)
      have hn := Lib.hid (HN.out j hlt)
      have hc := (l[j]).toNat_lt
      have hsz : j < (sB l).size := by rw [sB_size]; exact hlt
      by_cases hascii : (l[j]).toNat < 128
      · have hnx : ∀ ty, (Instr.next (.pointer (some ⟨w.heap.size, 0, none⟩)) true ty).run Tryz.prog (w.iter (sB l) j) = .ok (.tuple #[.bool true, .int .i64 j, .int .i32 ((l[j]).toNat : Int)]) (w.iter (sB l) (j + 1)) := fun ty => run_next_ascii w (sB l) j ty hsz hascii
        by_cases hA : 97 ≤ ((l[j]).toNat : Int) ∧ ((l[j]).toNat : Int) ≤ 122
        · have hz := Lib.hid (hy.out (okAt_let hA))
          have L := fun W => letter_any ((l[j]).toNat : Int) true (by simp; omega) W
          go_wp2_with fail
          refine (L _).mono ?_
          rintro e w2 ⟨rfl, rfl⟩
          go_wp2
          go_roundw
          case rel => exact ⟨j + 1, by omega, rfl, hz.out⟩
          case measure => simp; omega
        · have L := fun W => letter_any ((l[j]).toNat : Int) false (by simp; omega) W
          by_cases h0 : j = 0
          · have hz := Lib.hid (hn.out (okAt_no hA (.inl h0)))
            clear hA
            subst h0
            go_wp2_with fail
            refine (L _).mono ?_
            rintro e w2 ⟨rfl, rfl⟩
            go_wp2
            go_ret
            exact ⟨by rw [hz.out]; rfl, iter_ext _ _ _⟩
          · have h0' : ¬ (j : Int) = 0 := by omega
            have h0b : ((j : Int) == 0) = false := by rw [beq_eq_false_iff_ne]; omega
            by_cases hC : ((l[j]).toNat : Int) = 95
            · have hz := Lib.hid (hy.out (okAt_oth h0 (.inr hC)))
              clear hA L
              have L := fun W => letter_any 95 false (by decide) W
              go_wp2_with fail
              refine (L _).mono ?_
              rintro e w2 ⟨rfl, rfl⟩
              go_wp2
              go_roundw
              case rel => exact ⟨j + 1, by omega, rfl, hz.out⟩
              case measure => simp; omega
            · have h95 : (((l[j]).toNat : Int) == 95) = false := by rw [beq_eq_false_iff_ne]; omega
              have h95n : (((l[j]).toNat : Int) != 95) = true := by rw [bne_iff_ne]; omega
              by_cases hD : ((l[j]).toNat : Int) < 48
              · have hz := Lib.hid (hn.out (okAt_no hA (.inr (by omega))))
                clear hA
                go_wp2_with fail
                refine (L _).mono ?_
                rintro e w2 ⟨rfl, rfl⟩
                go_wp2
                go_ret
                exact ⟨by rw [hz.out]; rfl, iter_ext _ _ _⟩
              · by_cases hE : ((l[j]).toNat : Int) ≤ 57
                · have hz := Lib.hid (hy.out (okAt_oth h0 (.inl ⟨by omega, hE⟩)))
                  clear hA
                  go_wp2_with fail
                  refine (L _).mono ?_
                  rintro e w2 ⟨rfl, rfl⟩
                  go_wp2
                  go_roundw
                  case rel => exact ⟨j + 1, by omega, rfl, hz.out⟩
                  case measure => simp; omega
                · have hz := Lib.hid (hn.out (okAt_no hA (.inr (by omega))))
                  clear hA
                  go_wp2_with fail
                  refine (L _).mono ?_
                  rintro e w2 ⟨rfl, rfl⟩
                  go_wp2
                  go_ret
                  exact ⟨by rw [hz.out]; rfl, iter_ext _ _ _⟩
      · have hnx : ∀ ty, (Instr.next (.pointer (some ⟨w.heap.size, 0, none⟩)) true ty).run Tryz.prog (w.iter (sB l) j) = .ok (.tuple #[.bool true, .int .i64 j, .int .i32 (Utf8.decode (sB l) j).1]) (w.iter (sB l) (j + (Utf8.decode (sB l) j).2)) := fun ty => run_next_any w (sB l) j ty hsz
        have hd := (decode_high (sB l) j hsz (by rw [sB_get]; omega)).1
        have hd2 := decode_le (sB l) j
        have hz := Lib.hid (hn.out (okAt_no (by omega) (.inr (by omega))))
        generalize (Utf8.decode (sB l) j).1 = d at *
        generalize (Utf8.decode (sB l) j).2 = d2 at *
        have L := fun W => letter_any (d : Int) false (by simp; omega) W
        have h95 : ((d : Int) == 95) = false := by rw [beq_eq_false_iff_ne]; omega
        have h95n : ((d : Int) != 95) = true := by rw [bne_iff_ne]; omega
        have h48 : ¬ (d : Int) < 48 := by omega
        have h57 : ¬ (d : Int) ≤ 57 := by omega
        go_wp2_with fail
        refine (L _).mono ?_
        rintro e w2 ⟨rfl, rfl⟩
        by_cases h0 : j = 0
        · subst h0
          go_wp2
          go_ret
          exact ⟨by rw [hz.out]; rfl, iter_ext _ _ _⟩
        · have h0' : ¬ (j : Int) = 0 := by omega
          go_wp2
          go_ret
          exact ⟨by rw [hz.out]; rfl, iter_ext _ _ _⟩
    · obtain rfl : j = l.length := by omega
      have hz := Lib.hid (HE.out HK.out)
      have hnx : ∀ ty, (Instr.next (.pointer (some ⟨w.heap.size, 0, none⟩)) true ty).run Tryz.prog (w.iter (sB l) l.length) = .ok (.tuple #[.bool false]) (w.iter (sB l) l.length) := fun ty => run_next_end w (sB l) l.length ty (by rw [sB_size]; omega)
      by_cases h1 : 1 ≤ l.length
      · by_cases h2 : l.length ≤ 30
        · have hq := Lib.hid (show r = true by rw [hz.out]; simp [h1, h2])
          clear hz
          go_wp2
          go_ret
          exact ⟨by rw [hq.out]; simp; omega, iter_ext _ _ _⟩
        · have hq := Lib.hid (show r = false by rw [hz.out]; simp [h2])
          clear hz
          go_wp2
          go_ret
          exact ⟨by rw [hq.out]; simp; omega, iter_ext _ _ _⟩
      · have hq := Lib.hid (show r = false by rw [hz.out]; simp [h1])
        clear hz
        go_wp2
        go_ret
        exact ⟨by rw [hq.out]; rfl, iter_ext _ _ _⟩

end Go.Proofs.YtgkalcboklhdgaaGreatDoor

namespace Go.Proofs.YtgkalcboklhdgaaGreatDoor
open Go.RowKit
set_option linter.unusedVariables false
set_option linter.unusedSimpArgs false

/-- the entries hold these keys and values, in this order -/
def Holds (es : Array MapEntry) (l : List (Int × Value)) : Prop := es.toList.map (fun e => (e.key, e.val)) = l.map fun p => (Value.int .i64 p.1, p.2)

theorem findNow_at (k : Int) : ∀ (es : List MapEntry) (l : List (Int × Value)) (i : Nat), es.map (fun e => (e.key, e.val)) = l.map (fun p => (Value.int .i64 p.1, p.2)) →
    Instr.findNow (.int .i64) (.int .i64 k) es i = some ((l.zipIdx i).find? (fun p => p.1.1 == k) |>.map fun p => (p.2, p.1.2))
  | [], l, i, h => by
    obtain rfl : l = [] := by simpa using h.symm
    rfl
  | e :: es, [], i, h => by simp at h
  | e :: es, (n, v) :: l, i, h => by
    simp only [List.map_cons, List.cons.injEq, Prod.mk.injEq] at h
    obtain ⟨⟨h1, h2⟩, h3⟩ := h
    have ih := findNow_at k es l (i + 1) h3
    simp only [Instr.findNow, h1, Instr.sameNow, if_true, List.zipIdx_cons, List.find?_cons]
    by_cases hn : n = k
    · subst hn; simp [h2]
    · have e1 : (n == k) = false := by simpa using hn
      have e2 : (k == n) = false := by simpa using Ne.symm hn
      simp only [e1, e2]
      exact ih

variable {P : Program}
open Go.MapKept

theorem holds_find {es : Array MapEntry} {l : List (Int × Value)} (h : Holds es l) (kt : TypeId) (hk : P.underlying kt = some (.int .i64)) (k : Int) (w : World) :
    (Instr.findKey kt (.int .i64 k) es.toList).run P w = .ok ((l.zipIdx 0).find? (fun p => p.1.1 == k) |>.map fun p => (p.2, p.1.2)) w := by
  simp [Instr.findKey, run_underlying hk, findNow_at k es.toList l 0 h, Result.andThen]

theorem check_int (kt : TypeId) (hk : P.underlying kt = some (.int .i64)) (em : Bool) (k : Int) (w : World) : (Instr.checkKey em 10000 kt (.int .i64 k)).run P w = .ok () w := by
  rw [show (10000 : Nat) = 9999 + 1 from rfl, Instr.checkKey]
  simp [run_underlying hk, Result.andThen]

theorem zip_find (k : Int) : ∀ (l : List (Int × Value)) (i : Nat), ((l.zipIdx i).find? (fun p => p.1.1 == k)).map (fun p => p.1.2) = (l.find? (fun p => p.1 == k)).map (·.2)
  | [], _ => rfl
  | (n, v) :: l, i => by
    simp only [List.zipIdx_cons, List.find?_cons]
    cases h : n == k with
    | true => rfl
    | false => exact zip_find k l (i + 1)

/-- a look-up -/
theorem run_lookup_int {es : Array MapEntry} {clock b : Nat} {l : List (Int × Value)} {t kt e : TypeId} {w : World} (ht : P.underlying t = some (.map kt e)) (hk : P.underlying kt = some (.int .i64)) (hb : w.heap[b]? = some (.map es clock)) (h : Holds es l) (z : Value) (hz : (zeroValue e).run P w = .ok z w) (k : Int) (c : Bool) :
    (Instr.lookup t (.map (some b)) (.int .i64 k) c).run P w = .ok (if c then .tuple #[(((l.find? (fun p => p.1 == k)).map (·.2))).getD z, .bool ((l.find? (fun p => p.1 == k)).map (·.2)).isSome] else (((l.find? (fun p => p.1 == k)).map (·.2))).getD z) w := by
  rw [← zip_find k l 0]
  have hf := holds_find (P := P) h kt hk k w
  simp only [Instr.lookup, Sem.run_bind, run_underlying ht, Go.MapKept.run_getObj_map hb, check_int kt hk, hf, Result.andThen, Sem.run_pure]
  cases (l.zipIdx 0).find? (fun p => p.1.1 == k) with
  | none => simp [hz, Result.andThen]
  | some x => simp

/-- a store of a new key -/
theorem run_insert_new {es : Array MapEntry} {clock b : Nat} {l : List (Int × Value)} {t kt e : TypeId} {w : World} (ht : P.underlying t = some (.map kt e)) (hk : P.underlying kt = some (.int .i64)) (hb : w.heap[b]? = some (.map es clock)) (h : Holds es l) (k : Int) (hno : l.all (fun p => p.1 != k) = true) (v : Value) :
    ∃ es' clock' W, (Instr.mapUpdate t (.map (some b)) (.int .i64 k) v).run P w = .ok () W ∧ Holds es' (l ++ [(k, v)]) ∧ Turn b (.map es' clock') w W := by
  have hf := holds_find (P := P) h kt hk k w
  have hn : (l.zipIdx 0).find? (fun p => p.1.1 == k) = none := by
    have hz := zip_find k l 0
    have h0 : l.find? (fun p => p.1 == k) = none := by
      rw [List.find?_eq_none]
      intro x hx
      have := List.all_eq_true.1 hno x hx
      simpa using this
    rw [h0] at hz
    simpa using hz
  rw [hn] at hf
  have hlt := lt_of_block hb
  refine ⟨es.push { key := .int .i64 k, val := v, born := clock }, clock + 1, { w with heap := w.heap.setIfInBounds b (.map (es.push { key := .int .i64 k, val := v, born := clock }) (clock + 1)) }, ?_, ?_, ?_⟩
  · simp only [Instr.mapUpdate, Sem.run_bind, run_underlying ht, Go.MapKept.run_getObj_map hb, check_int kt hk, hf, Result.andThen]
    simp [run_setObj_map _ hb]
  · unfold Holds at h ⊢
    simp [h]
  · exact ⟨rfl, rfl, rfl, by simp, by simp [hlt], fun j hj hne => by simp [Array.getElem?_setIfInBounds_ne (Ne.symm hne)]⟩

end Go.Proofs.YtgkalcboklhdgaaGreatDoor

namespace Go.Proofs.YtgkalcboklhdgaaGreatDoor
open Go.RowKit
set_option linter.unusedVariables false
set_option linter.unusedSimpArgs false

/-- block b is a map with these entries -/
def MapAt (w : World) (b : Nat) (l : List (Int × Value)) : Prop := ∃ es clock, w.heap[b]? = some (.map es clock) ∧ Holds es l
theorem MapAt.ext {w W : World} {b : Nat} {l : List (Int × Value)} (h : MapAt w b l) (hE : Ext w W) : MapAt W b l := by
  obtain ⟨es, c, h1, h2⟩ := h
  exact ⟨es, c, (hE.below.block b (lt_of_block h1)).trans h1, h2⟩
theorem MapAt.lt {w : World} {b : Nat} {l : List (Int × Value)} (h : MapAt w b l) : b < w.heap.size := by
  obtain ⟨es, c, h1, h2⟩ := h
  exact lt_of_block h1
theorem MapAt.made (w : World) : MapAt (w.alloc (.map #[] 0)) w.heap.size [] := ⟨#[], 0, alloc_here _ _, rfl⟩

variable {P : Program} {ops : Array Oper} {rest : List Oper} {o : Oper} {a : Act} {Q : Exit → Act → World → Prop}
theorem wp_insert {w : World} (hg : o.guard = none) (m x v : Operand) (t : TypeId) (hop : o.op = Op.insert t m x v) (kt e : TypeId) (ht : P.underlying t = some (.map kt e)) (hk : P.underlying kt = some (.int .i64))
    (b : Nat) (l : List (Int × Value)) (hm : a.eval m = .map (some b)) (h : MapAt w b l) (k : Int) (val : Value) (hx : a.eval x = .int .i64 k) (hv : a.eval v = val) (hno : l.all (fun p => p.1 != k) = true)
    (hK : ∀ W, MapAt W b (l ++ [(k, val)]) → Below b w W → (∀ j, j < w.heap.size → j ≠ b → W.heap[j]? = w.heap[j]?) → wpList P ops Q rest (a.put o.dst undef) W) : wpList P ops Q (o :: rest) a w := by
  obtain ⟨es, c, h1, h2⟩ := h
  obtain ⟨es', c', W, hrun, h3, h4⟩ := run_insert_new ht hk h1 h2 k hno val
  refine wpList_plain hg fun K' hK' => ?_
  unfold Oper.wp
  simp [execOp, hop, hm, hx, hv, hrun, Result.andThen]
  exact hK' _ _ (hK W ⟨es', c', h4.here, h3⟩ (h4.below (Nat.le_refl _) (Nat.le_of_lt (lt_of_block h1))) h4.other)

end Go.Proofs.YtgkalcboklhdgaaGreatDoor

namespace Go.Proofs.YtgkalcboklhdgaaGreatDoor
open Go.RowKit
set_option linter.unusedVariables false
set_option linter.unusedSimpArgs false

/-- block g is one cell that holds v -/
def One (W : World) (g : Nat) (v : Value) (t : TypeId) : Prop := W.heap[g]? = some (.cells #[v] t (0, 0))
theorem One.cell {W : World} {g : Nat} {v : Value} {t : TypeId} (h : One W g v t) : W.cell? ⟨g, 0, none⟩ = some v := cell_of h rfl
theorem One.ext {w W : World} {g : Nat} {v : Value} {t : TypeId} (h : One w g v t) (hE : Ext w W) : One W g v t := (hE.below.block g (lt_of_block h)).trans h
abbrev tNum : TypeId := 109
abbrev tTru : TypeId := 111

theorem number_any (n : FuncId) (xs ys : Array Value) (w : World) : Calls Tryz.prog 84 #[.func (.func n) xs ys] w fun e W =>
    ∃ g, e = .returned (.func (.func 115) #[] #[.pointer (some ⟨g, 0, none⟩)]) ∧ One W g (.func (.func n) xs ys) tNum ∧ Ext w W := by
  go_enter Tryz.func84, Tryz.ntmps84
  go_wp2
  go_ret
  exact ⟨_, rfl, alloc_here _ _, (Below.refl _ w).alloc (Nat.le_refl _) _⟩

theorem divide_any (n : FuncId) (xs ys : Array Value) (w : World) : Calls Tryz.prog 88 #[.func (.func n) xs ys] w fun e W =>
    ∃ g, e = .returned (.func (.func 116) #[] #[.pointer (some ⟨g, 0, none⟩)]) ∧ One W g (.func (.func n) xs ys) tNum ∧ Ext w W := by
  go_enter Tryz.func88, Tryz.ntmps88
  go_wp2
  go_ret
  exact ⟨_, rfl, alloc_here _ _, (Below.refl _ w).alloc (Nat.le_refl _) _⟩

theorem truth_any (n : FuncId) (xs ys : Array Value) (w : World) : Calls Tryz.prog 91 #[.func (.func n) xs ys] w fun e W =>
    ∃ g h, e = .returned (.func (.func 115) #[] #[.pointer (some ⟨g, 0, none⟩)]) ∧ One W g (.func (.func 117) #[] #[.pointer (some ⟨h, 0, none⟩)]) tNum ∧ One W h (.func (.func n) xs ys) tTru ∧ Ext w W := by
  go_enter Tryz.func91, Tryz.ntmps91
  go_wp2_with fail
  refine (number_any _ _ _ _).mono ?_
  rintro e W ⟨g, rfl, hc, hE⟩
  go_wp2
  go_ret
  have h0 : One (w.alloc (.cells #[.func (.func n) xs ys] tTru)) w.heap.size (.func (.func n) xs ys) tTru := alloc_here _ _
  exact ⟨g, w.heap.size, rfl, hc, h0.ext hE, Ext.trans ((Below.refl _ w).alloc (Nat.le_refl _) _) hE⟩

end Go.Proofs.YtgkalcboklhdgaaGreatDoor

namespace Go.Proofs.YtgkalcboklhdgaaGreatDoor
open Go.RowKit
set_option linter.unusedVariables false
set_option linter.unusedSimpArgs false

def numF (k : Int) : Option FuncId := if k = 3 then some 85 else if k = 4 then some 86 else none
def divF (k : Int) : Option FuncId := if k = 6 then some 89 else if k = 7 then some 90 else none
def truF (k : Int) : Option FuncId :=
  if k = 8 then some 92 else if k = 9 then some 93 else if k = 10 then some 94 else if k = 11 then some 95 else
  if k = 12 then some 96 else if k = 13 then some 97 else if k = 14 then some 98 else if k = 15 then some 99 else none
/-- fv is the function of operator k -/
def FnOk (W : World) (k : Int) (fv : Value) : Prop :=
  (k = 5 ∧ fv = .func (.func 87) #[] #[]) ∨
  (∃ n g, numF k = some n ∧ fv = .func (.func 115) #[] #[.pointer (some ⟨g, 0, none⟩)] ∧ One W g (.func (.func n) #[] #[]) tNum) ∨
  (∃ n g, divF k = some n ∧ fv = .func (.func 116) #[] #[.pointer (some ⟨g, 0, none⟩)] ∧ One W g (.func (.func n) #[] #[]) tNum) ∨
  (∃ n g h, truF k = some n ∧ fv = .func (.func 115) #[] #[.pointer (some ⟨g, 0, none⟩)] ∧ One W g (.func (.func 117) #[] #[.pointer (some ⟨h, 0, none⟩)]) tNum ∧ One W h (.func (.func n) #[] #[]) tTru)
theorem cell_lt2 {w : World} {a : Addr} {v : Value} (h : w.cell? a = some v) : a.block < w.heap.size := by
  unfold World.cell? at h
  split at h
  · rename_i hx; exact lt_of_block hx
  · cases h
theorem FnOk.keep {w W : World} {k : Int} {fv : Value} (h : FnOk w k fv) (hk : ∀ g v t, t = tNum ∨ t = tTru → One w g v t → One W g v t) : FnOk W k fv := by
  rcases h with h | ⟨n, g, h1, h2, h3⟩ | ⟨n, g, h1, h2, h3⟩ | ⟨n, g, h, h1, h2, h3, h4⟩
  · exact .inl h
  · exact .inr (.inl ⟨n, g, h1, h2, hk _ _ _ (.inl rfl) h3⟩)
  · exact .inr (.inr (.inl ⟨n, g, h1, h2, hk _ _ _ (.inl rfl) h3⟩))
  · exact .inr (.inr (.inr ⟨n, g, h, h1, h2, hk _ _ _ (.inl rfl) h3, hk _ _ _ (.inr rfl) h4⟩))
theorem ext_cell {w W : World} (hE : Ext w W) (g : Nat) (v : Value) (h : w.cell? ⟨g, 0, none⟩ = some v) : W.cell? ⟨g, 0, none⟩ = some v := (hE.below.cell (p := ⟨g, 0, none⟩) (cell_lt2 h)).trans h
/-- one entry: operator k -/
structure Entry where
  k : Int
  sign : List UInt8
  prec : Int
  arg : Int
  res : Int
def Entry.val (e : Entry) (fv : Value) : Value := .agg #[sV e.sign, .int .i64 e.prec, .int .i64 e.arg, .int .i64 e.res, fv]
/-- block b is a map of these operators -/
def OpsAt (W : World) (b : Nat) (L : List Entry) : Prop := ∃ fs : List Value, fs.length = L.length ∧ MapAt W b (List.zipWith (fun (e : Entry) fv => (e.k, e.val fv)) L fs) ∧ ∀ i (h : i < L.length) (h' : i < fs.length), FnOk W L[i].k fs[i]
theorem OpsAt.ext {w W : World} {b : Nat} {L : List Entry} (h : OpsAt w b L) (hE : Ext w W) : OpsAt W b L := by
  obtain ⟨fs, h1, h2, h3⟩ := h
  exact ⟨fs, h1, h2.ext hE, fun i hi hi' => (h3 i hi hi').keep (fun _ _ _ _ h => h.ext hE)⟩
theorem OpsAt.made (w : World) : OpsAt (w.alloc (.map #[] 0)) w.heap.size [] := ⟨[], rfl, MapAt.made w, fun i h => by simp at h⟩

theorem zip_snoc (L : List Entry) (fs : List Value) (h : fs.length = L.length) (e : Entry) (fv : Value) : List.zipWith (fun (e : Entry) fv => (e.k, e.val fv)) (L ++ [e]) (fs ++ [fv]) = List.zipWith (fun (e : Entry) fv => (e.k, e.val fv)) L fs ++ [(e.k, e.val fv)] := by
  rw [List.zipWith_append h.symm]; rfl

variable {ops : Array Oper} {rest : List Oper} {o : Oper} {a : Act} {Q : Exit → Act → World → Prop}
theorem wp_op {w : World} (hg : o.guard = none) (m x v : Operand) (t : TypeId) (hop : o.op = Op.insert t m x v) (kt el : TypeId) (ht : Tryz.prog.underlying t = some (.map kt el)) (hk : Tryz.prog.underlying kt = some (.int .i64))
    (b : Nat) (L : List Entry) (h : OpsAt w b L) (e : Entry) (fv : Value) (hm : a.eval m = .map (some b)) (hx : a.eval x = .int .i64 e.k) (hv : a.eval v = e.val fv) (hf : FnOk w e.k fv) (hno : L.all (fun x => x.k != e.k) = true)
    (hK : ∀ W, OpsAt W b (L ++ [e]) → Below b w W → wpList Tryz.prog ops Q rest (a.put o.dst undef) W) : wpList Tryz.prog ops Q (o :: rest) a w := by
  obtain ⟨fs, h1, h2, h3⟩ := h
  refine wp_insert hg m x v t hop kt el ht hk b _ hm h2 e.k (e.val fv) hx hv ?_ ?_
  · rw [List.all_eq_true]
    intro p hp
    obtain ⟨i, hi, rfl⟩ := List.mem_iff_getElem.1 hp
    have hi2 : i < L.length := by simp at hi; omega
    have := List.all_eq_true.1 hno L[i] (List.getElem_mem hi2)
    simpa using this
  · intro W hM hB hO
    have hcell : ∀ g u t, t = tNum ∨ t = tTru → One w g u t → One W g u t := fun g u t _ hu => by
      have hlt := lt_of_block hu
      have hne : g ≠ b := by
        rintro rfl
        obtain ⟨es, c, h4, _⟩ := h2
        rw [One, h4] at hu; cases hu
      exact (hO g hlt hne).trans hu
    refine hK W ⟨fs ++ [fv], by simp [h1], by rw [zip_snoc _ _ h1]; exact hM, fun i hi hi' => ?_⟩ hB
    by_cases hl : i < L.length
    · have hl2 : i < fs.length := by omega
      rw [List.getElem_append_left hl, List.getElem_append_left hl2]
      exact (h3 i hl hl2).keep hcell
    · have e1 : i = L.length := by simp at hi; omega
      subst e1
      have := hf.keep hcell
      simpa [h1.symm] using this

end Go.Proofs.YtgkalcboklhdgaaGreatDoor

namespace Go.Proofs.YtgkalcboklhdgaaGreatDoor
open Go.RowKit
set_option linter.unusedVariables false
set_option linter.unusedSimpArgs false

def opL : List Entry := [⟨3, [43], 4, 1, 1⟩, ⟨4, [45], 4, 1, 1⟩, ⟨5, [42], 5, 1, 1⟩, ⟨6, [47], 5, 1, 1⟩, ⟨7, [37], 5, 1, 1⟩, ⟨8, [61, 61], 3, 0, 2⟩, ⟨9, [33, 61], 3, 0, 2⟩, ⟨10, [60], 3, 1, 2⟩, ⟨11, [60, 61], 3, 1, 2⟩, ⟨12, [62], 3, 1, 2⟩, ⟨13, [62, 61], 3, 1, 2⟩, ⟨14, [38, 38], 2, 2, 2⟩, ⟨15, [124, 124], 1, 2, 2⟩]

set_option maxRecDepth 100000 in
set_option maxHeartbeats 4000000 in
theorem operators_any (w : World) : Calls Tryz.prog 63 #[] w fun e W => ∃ b, e = .returned (.map (some b)) ∧ OpsAt W b opL ∧ Ext w W := by
  have hmm := @run_makeMap Tryz.prog
  have hO := OpsAt.made w
  have hE : Ext w (w.alloc (.map #[] 0)) := (Below.refl _ w).alloc (Nat.le_refl _) _
  go_enter Tryz.func63, Tryz.ntmps63
  dsimp only [List.append]
  go_wp2_with fail
  refine (number_any _ _ _ _).mono ?_
  rintro e W0 ⟨g, rfl, hc, hE1⟩
  replace hO := hO.ext hE1
  replace hE := Ext.trans hE hE1
  clear hE1
  dsimp only
  go_wp2_with (first | (refine wp_op rfl _ _ _ _ rfl _ _ Tryz.underlying87 Tryz.underlying3 _ _ hO ⟨3, [43], 4, 1, 1⟩ _ ?_ ?_ ?_ (.inr (.inl ⟨_, _, rfl, rfl, hc⟩)) rfl ?_; exact rfl; exact rfl; exact rfl; clear hc; intro V0 hO1 hB; replace hE := Below.trans hE hB; clear hB hO; have hO := hO1; clear hO1))
  go_wp2_with fail
  refine (number_any _ _ _ _).mono ?_
  rintro e W1 ⟨g, rfl, hc, hE1⟩
  replace hO := hO.ext hE1
  replace hE := Ext.trans hE hE1
  clear hE1
  dsimp only
  go_wp2_with (first | (refine wp_op rfl _ _ _ _ rfl _ _ Tryz.underlying87 Tryz.underlying3 _ _ hO ⟨4, [45], 4, 1, 1⟩ _ ?_ ?_ ?_ (.inr (.inl ⟨_, _, rfl, rfl, hc⟩)) rfl ?_; exact rfl; exact rfl; exact rfl; clear hc; intro V1 hO1 hB; replace hE := Below.trans hE hB; clear hB hO; have hO := hO1; clear hO1) | (refine wp_op rfl _ _ _ _ rfl _ _ Tryz.underlying87 Tryz.underlying3 _ _ hO ⟨5, [42], 5, 1, 1⟩ _ ?_ ?_ ?_ (.inl ⟨rfl, rfl⟩) rfl ?_; exact rfl; exact rfl; exact rfl; intro V2 hO1 hB; replace hE := Below.trans hE hB; clear hB hO; have hO := hO1; clear hO1))
  go_wp2_with fail
  refine (divide_any _ _ _ _).mono ?_
  rintro e W3 ⟨g, rfl, hc, hE1⟩
  replace hO := hO.ext hE1
  replace hE := Ext.trans hE hE1
  clear hE1
  dsimp only
  go_wp2_with (first | (refine wp_op rfl _ _ _ _ rfl _ _ Tryz.underlying87 Tryz.underlying3 _ _ hO ⟨6, [47], 5, 1, 1⟩ _ ?_ ?_ ?_ (.inr (.inr (.inl ⟨_, _, rfl, rfl, hc⟩))) rfl ?_; exact rfl; exact rfl; exact rfl; clear hc; intro V3 hO1 hB; replace hE := Below.trans hE hB; clear hB hO; have hO := hO1; clear hO1))
  go_wp2_with fail
  refine (divide_any _ _ _ _).mono ?_
  rintro e W4 ⟨g, rfl, hc, hE1⟩
  replace hO := hO.ext hE1
  replace hE := Ext.trans hE hE1
  clear hE1
  dsimp only
  go_wp2_with (first | (refine wp_op rfl _ _ _ _ rfl _ _ Tryz.underlying87 Tryz.underlying3 _ _ hO ⟨7, [37], 5, 1, 1⟩ _ ?_ ?_ ?_ (.inr (.inr (.inl ⟨_, _, rfl, rfl, hc⟩))) rfl ?_; exact rfl; exact rfl; exact rfl; clear hc; intro V4 hO1 hB; replace hE := Below.trans hE hB; clear hB hO; have hO := hO1; clear hO1))
  go_wp2_with fail
  refine (truth_any _ _ _ _).mono ?_
  rintro e W5 ⟨g, h, rfl, hc, hc2, hE1⟩
  replace hO := hO.ext hE1
  replace hE := Ext.trans hE hE1
  clear hE1
  dsimp only
  go_wp2_with (first | (refine wp_op rfl _ _ _ _ rfl _ _ Tryz.underlying87 Tryz.underlying3 _ _ hO ⟨8, [61, 61], 3, 0, 2⟩ _ ?_ ?_ ?_ (.inr (.inr (.inr ⟨_, _, _, rfl, rfl, hc, hc2⟩))) rfl ?_; exact rfl; exact rfl; exact rfl; clear hc hc2; intro V5 hO1 hB; replace hE := Below.trans hE hB; clear hB hO; have hO := hO1; clear hO1))
  go_wp2_with fail
  refine (truth_any _ _ _ _).mono ?_
  rintro e W6 ⟨g, h, rfl, hc, hc2, hE1⟩
  replace hO := hO.ext hE1
  replace hE := Ext.trans hE hE1
  clear hE1
  dsimp only
  go_wp2_with (first | (refine wp_op rfl _ _ _ _ rfl _ _ Tryz.underlying87 Tryz.underlying3 _ _ hO ⟨9, [33, 61], 3, 0, 2⟩ _ ?_ ?_ ?_ (.inr (.inr (.inr ⟨_, _, _, rfl, rfl, hc, hc2⟩))) rfl ?_; exact rfl; exact rfl; exact rfl; clear hc hc2; intro V6 hO1 hB; replace hE := Below.trans hE hB; clear hB hO; have hO := hO1; clear hO1))
  go_wp2_with fail
  refine (truth_any _ _ _ _).mono ?_
  rintro e W7 ⟨g, h, rfl, hc, hc2, hE1⟩
  replace hO := hO.ext hE1
  replace hE := Ext.trans hE hE1
  clear hE1
  dsimp only
  go_wp2_with (first | (refine wp_op rfl _ _ _ _ rfl _ _ Tryz.underlying87 Tryz.underlying3 _ _ hO ⟨10, [60], 3, 1, 2⟩ _ ?_ ?_ ?_ (.inr (.inr (.inr ⟨_, _, _, rfl, rfl, hc, hc2⟩))) rfl ?_; exact rfl; exact rfl; exact rfl; clear hc hc2; intro V7 hO1 hB; replace hE := Below.trans hE hB; clear hB hO; have hO := hO1; clear hO1))
  go_wp2_with fail
  refine (truth_any _ _ _ _).mono ?_
  rintro e W8 ⟨g, h, rfl, hc, hc2, hE1⟩
  replace hO := hO.ext hE1
  replace hE := Ext.trans hE hE1
  clear hE1
  dsimp only
  go_wp2_with (first | (refine wp_op rfl _ _ _ _ rfl _ _ Tryz.underlying87 Tryz.underlying3 _ _ hO ⟨11, [60, 61], 3, 1, 2⟩ _ ?_ ?_ ?_ (.inr (.inr (.inr ⟨_, _, _, rfl, rfl, hc, hc2⟩))) rfl ?_; exact rfl; exact rfl; exact rfl; clear hc hc2; intro V8 hO1 hB; replace hE := Below.trans hE hB; clear hB hO; have hO := hO1; clear hO1))
  go_wp2_with fail
  refine (truth_any _ _ _ _).mono ?_
  rintro e W9 ⟨g, h, rfl, hc, hc2, hE1⟩
  replace hO := hO.ext hE1
  replace hE := Ext.trans hE hE1
  clear hE1
  dsimp only
  go_wp2_with (first | (refine wp_op rfl _ _ _ _ rfl _ _ Tryz.underlying87 Tryz.underlying3 _ _ hO ⟨12, [62], 3, 1, 2⟩ _ ?_ ?_ ?_ (.inr (.inr (.inr ⟨_, _, _, rfl, rfl, hc, hc2⟩))) rfl ?_; exact rfl; exact rfl; exact rfl; clear hc hc2; intro V9 hO1 hB; replace hE := Below.trans hE hB; clear hB hO; have hO := hO1; clear hO1))
  go_wp2_with fail
  refine (truth_any _ _ _ _).mono ?_
  rintro e W10 ⟨g, h, rfl, hc, hc2, hE1⟩
  replace hO := hO.ext hE1
  replace hE := Ext.trans hE hE1
  clear hE1
  dsimp only
  go_wp2_with (first | (refine wp_op rfl _ _ _ _ rfl _ _ Tryz.underlying87 Tryz.underlying3 _ _ hO ⟨13, [62, 61], 3, 1, 2⟩ _ ?_ ?_ ?_ (.inr (.inr (.inr ⟨_, _, _, rfl, rfl, hc, hc2⟩))) rfl ?_; exact rfl; exact rfl; exact rfl; clear hc hc2; intro V10 hO1 hB; replace hE := Below.trans hE hB; clear hB hO; have hO := hO1; clear hO1))
  go_wp2_with fail
  refine (truth_any _ _ _ _).mono ?_
  rintro e W11 ⟨g, h, rfl, hc, hc2, hE1⟩
  replace hO := hO.ext hE1
  replace hE := Ext.trans hE hE1
  clear hE1
  dsimp only
  go_wp2_with (first | (refine wp_op rfl _ _ _ _ rfl _ _ Tryz.underlying87 Tryz.underlying3 _ _ hO ⟨14, [38, 38], 2, 2, 2⟩ _ ?_ ?_ ?_ (.inr (.inr (.inr ⟨_, _, _, rfl, rfl, hc, hc2⟩))) rfl ?_; exact rfl; exact rfl; exact rfl; clear hc hc2; intro V11 hO1 hB; replace hE := Below.trans hE hB; clear hB hO; have hO := hO1; clear hO1))
  go_wp2_with fail
  refine (truth_any _ _ _ _).mono ?_
  rintro e W12 ⟨g, h, rfl, hc, hc2, hE1⟩
  replace hO := hO.ext hE1
  replace hE := Ext.trans hE hE1
  clear hE1
  dsimp only
  go_wp2_with (first | (refine wp_op rfl _ _ _ _ rfl _ _ Tryz.underlying87 Tryz.underlying3 _ _ hO ⟨15, [124, 124], 1, 2, 2⟩ _ ?_ ?_ ?_ (.inr (.inr (.inr ⟨_, _, _, rfl, rfl, hc, hc2⟩))) rfl ?_; exact rfl; exact rfl; exact rfl; clear hc hc2; intro V12 hO1 hB; replace hE := Below.trans hE hB; clear hB hO; have hO := hO1; clear hO1))
  go_ret
  exact ⟨_, rfl, hO, hE⟩

end Go.Proofs.YtgkalcboklhdgaaGreatDoor

namespace Go.Proofs.YtgkalcboklhdgaaGreatDoor
open Go.RowKit
set_option linter.unusedVariables false
set_option linter.unusedSimpArgs false

theorem enters_fn {f : FuncId} {fn : Func} {c : Code} (hf : Tryz.prog.funcs[f]? = some fn) (hname : (fn.name == "runtime.NumGoroutine") = false) (hb : fn.body = some c) : ∀ args w, (callFunc f args).run Tryz.prog w = .ok (.enter f args) w := by
  intro args w
  have h1 : fn.name ≠ "runtime.NumGoroutine" := by simpa using hname
  simp [callFunc, hf, h1, hb, mark]

theorem ret_bool {a b : Bool} (h : a = b) : Ending.returned (.bool a) = .returned (.bool b) := by rw [h]
theorem ret_int {k : IntKind} {a b : Int} (h : a = b) : Ending.returned (.int k a) = .returned (.int k b) := by rw [h]
/-- a number that a program may hold -/
def inM (x : Int) : Prop := -1099511627776 ≤ x ∧ x ≤ 1099511627776
instance (x : Int) : Decidable (inM x) := inferInstanceAs (Decidable (_ ∧ _))
def Does (n : FuncId) (args : Array Value) (v : Value) : Prop := ∀ w, Calls Tryz.prog n args w fun e w' => e = .returned v ∧ w = w'

theorem op1_any (x y : Int) (hx : inM x) (hy : inM y) : Does 85 #[.int .i64 x, .int .i64 y] (.int .i64 (x + y)) := by
  intro w
  unfold inM at hx hy
  obtain ⟨h1, h2⟩ := hx
  obtain ⟨h3, h4⟩ := hy
  go_enter Tryz.func85, Tryz.ntmps85
  go_wp2
  go_ret
  exact ⟨rfl, rfl⟩
theorem op2_any (x y : Int) (hx : inM x) (hy : inM y) : Does 86 #[.int .i64 x, .int .i64 y] (.int .i64 (x - y)) := by
  intro w
  unfold inM at hx hy
  obtain ⟨h1, h2⟩ := hx
  obtain ⟨h3, h4⟩ := hy
  go_enter Tryz.func86, Tryz.ntmps86
  go_wp2
  go_ret
  exact ⟨rfl, rfl⟩
theorem tdiv_bd (x y : Int) (hx : inM x) (hy : y ≠ 0) : inM (x.tdiv y) := by
  have h : (x.tdiv y).natAbs ≤ x.natAbs := by rw [Int.natAbs_tdiv]; exact Nat.div_le_self _ _
  unfold inM at *
  omega
theorem tmod_bd (x y : Int) (hx : inM x) : inM (x.tmod y) := by
  have h : (x.tmod y).natAbs ≤ x.natAbs := by rw [Int.natAbs_tmod]; exact Nat.mod_le _ _
  unfold inM at *
  omega
theorem op3_any (x y : Int) (hx : inM x) (hy : inM y) (h0 : y ≠ 0) : Does 89 #[.int .i64 x, .int .i64 y] (.int .i64 (x.tdiv y)) := by
  intro w
  have hb := tdiv_bd x y hx h0
  unfold inM at hx hy hb
  obtain ⟨h1, h2⟩ := hx
  obtain ⟨h3, h4⟩ := hy
  obtain ⟨h5, h6⟩ := hb
  go_enter Tryz.func89, Tryz.ntmps89
  go_wp2
  go_ret
  exact ⟨rfl, rfl⟩
theorem op4_any (x y : Int) (hx : inM x) (hy : inM y) (h0 : y ≠ 0) : Does 90 #[.int .i64 x, .int .i64 y] (.int .i64 (x.tmod y)) := by
  intro w
  have hb := tmod_bd x y hx
  unfold inM at hx hy hb
  obtain ⟨h1, h2⟩ := hx
  obtain ⟨h3, h4⟩ := hy
  obtain ⟨h5, h6⟩ := hb
  go_enter Tryz.func90, Tryz.ntmps90
  go_wp2
  go_ret
  exact ⟨rfl, rfl⟩

end Go.Proofs.YtgkalcboklhdgaaGreatDoor

namespace Go.Proofs.YtgkalcboklhdgaaGreatDoor
open Go.RowKit
set_option linter.unusedVariables false
set_option linter.unusedSimpArgs false

/-- a binding: a name, a type, a value -/
structure Bn where
  name : List UInt8
  type : Int
  value : Int
def Bn.val (b : Bn) : Value := .agg #[sV b.name, .int .i64 b.type, .int .i64 b.value]
def Bn.fits (b : Bn) : Prop := b.name.length ≤ 140737488355328 ∧ Ex.wf b.type ∧ Ex.wf b.value
/-- the cells of a binding -/
def Bn.cells (w : World) (b o : Nat) (x : Bn) : Prop :=
  w.cell? ⟨b, o, none⟩ = some (sV x.name) ∧ w.cell? ⟨b, o + 1, none⟩ = some (.int .i64 x.type) ∧ w.cell? ⟨b, o + 2, none⟩ = some (.int .i64 x.value)
/-- these bindings lie at p -/
def BAt (w : World) (p : Option Addr) (bs : List Bn) : Prop :=
  (bs.length ≤ 4398046510976 ∧ ∀ b ∈ bs, b.fits) ∧ ∀ j (h : j < bs.length), ∃ b o, p = some ⟨b, o, none⟩ ∧ Bn.cells w b (o + j * 3) bs[j]
theorem Bn.cells.below {w W : World} {b o : Nat} {x : Bn} (h : Bn.cells w b o x) (hb : Below w.heap.size w W) : Bn.cells W b o x := by
  obtain ⟨h0, h1, h2⟩ := h
  have hl := Ex.cell_lt' h0
  exact ⟨(hb.cell (p := ⟨b, o, none⟩) hl).trans h0, (hb.cell (p := ⟨b, o + 1, none⟩) hl).trans h1, (hb.cell (p := ⟨b, o + 2, none⟩) hl).trans h2⟩
theorem BAt.below {w W : World} {p : Option Addr} {bs : List Bn} (h : BAt w p bs) (hb : Below w.heap.size w W) : BAt W p bs :=
  ⟨h.1, fun j hj => by obtain ⟨b, o, e, hc⟩ := h.2 j hj; exact ⟨b, o, e, hc.below hb⟩⟩
theorem BAt.nil (w : World) (p : Option Addr) : BAt w p [] := ⟨⟨by simp, by simp⟩, fun j h => by simp at h⟩

/-- a binding is valid behind one of a name -/
def Bn.ok (prev : Option (List UInt8)) (b : Bn) : Bool :=
  isNm b.name && (match prev with | none => true | some n => Op.bytesLess n b.name) && decide (b.type = 1 ∨ b.type = 2) && (if b.type = 2 then decide (b.value = 0 ∨ b.value = 1) else decide (inM b.value))
def bnsOk : Option (List UInt8) → List Bn → Bool
  | _, [] => true
  | prev, b :: bs => b.ok prev && bnsOk (some b.name) bs
/-- bindings are valid -/
def bnds (bs : List Bn) : Bool := bnsOk none bs && decide (bs.length ≤ 64)
def prevOf (bs : List Bn) (j : Nat) (prev : Option (List UInt8)) : Option (List UInt8) := if j = 0 then prev else (bs[j - 1]?).map Bn.name
theorem bnsOk_snoc (bs : List Bn) : ∀ (prev : Option (List UInt8)) (j : Nat) (h : j < bs.length), bnsOk prev (bs.take (j + 1)) = (bnsOk prev (bs.take j) && (bs[j]).ok (prevOf bs j prev)) := by
  induction bs with
  | nil => intro prev j h; simp at h
  | cons b bs ih =>
    intro prev j h
    cases j with
    | zero => simp [bnsOk, prevOf]
    | succ j =>
      have h' : j < bs.length := by simpa using h
      rw [List.take_succ_cons, bnsOk, ih (some b.name) j h', List.take_succ_cons, bnsOk, List.getElem_cons_succ, Bool.and_assoc]
      congr 3
      unfold prevOf
      cases j with
      | zero => simp
      | succ j => simp
theorem bnsOk_mono (bs : List Bn) : ∀ (prev : Option (List UInt8)) (j : Nat), bnsOk prev bs = true → bnsOk prev (bs.take j) = true := by
  induction bs with
  | nil => intro prev j h; simpa using h
  | cons b bs ih =>
    intro prev j h
    cases j with
    | zero => simp [bnsOk]
    | succ j =>
      rw [bnsOk, Bool.and_eq_true] at h
      rw [List.take_succ_cons, bnsOk, Bool.and_eq_true]
      exact ⟨h.1, ih _ _ h.2⟩
theorem bnds_no (bs : List Bn) (j : Nat) (h : j < bs.length) (hok : (bs[j]).ok (prevOf bs j none) = false) : bnds bs = false := by
  unfold bnds
  cases hb : bnsOk none bs with
  | false => rfl
  | true =>
    have := bnsOk_mono bs none (j + 1) hb
    rw [bnsOk_snoc bs none j h, hok] at this
    simp at this
theorem bnds_yes (bs : List Bn) (j : Nat) (h : j < bs.length) (h0 : bnsOk none (bs.take j) = true) (hok : (bs[j]).ok (prevOf bs j none) = true) : bnsOk none (bs.take (j + 1)) = true := by
  rw [bnsOk_snoc bs none j h, h0, hok]; rfl
theorem Bn.ok_nm {b : Bn} {prev : Option (List UInt8)} (h : isNm b.name = false) : b.ok prev = false := by simp [Bn.ok, h]
theorem Bn.ok_lt {b : Bn} {n : List UInt8} (h : Op.bytesLess n b.name = false) : b.ok (some n) = false := by simp [Bn.ok, h]
theorem Bn.ok_ty {b : Bn} {prev : Option (List UInt8)} (h1 : b.type ≠ 1) (h2 : b.type ≠ 2) : b.ok prev = false := by simp [Bn.ok, h1, h2]
theorem Bn.ok_b {b : Bn} {prev : Option (List UInt8)} (h1 : b.type = 2) (h2 : b.value ≠ 0) (h3 : b.value ≠ 1) : b.ok prev = false := by simp [Bn.ok, h1, h2, h3]
theorem Bn.ok_i {b : Bn} {prev : Option (List UInt8)} (h1 : b.type = 1) (h2 : ¬ inM b.value) : b.ok prev = false := by simp [Bn.ok, h1, h2]
def prevLt (prev : Option (List UInt8)) (n : List UInt8) : Bool := match prev with | none => true | some m => Op.bytesLess m n
theorem Bn.ok_yes {b : Bn} {prev : Option (List UInt8)} (h0 : isNm b.name = true) (h1 : prevLt prev b.name = true) (h2 : (b.type = 2 ∧ (b.value = 0 ∨ b.value = 1)) ∨ (b.type = 1 ∧ inM b.value)) : b.ok prev = true := by
  unfold prevLt at h1
  unfold Bn.ok
  rw [h0]
  simp only [Bool.true_and]
  rw [h1]
  rcases h2 with ⟨e, h⟩ | ⟨e, h⟩ <;> simp [e, h]

end Go.Proofs.YtgkalcboklhdgaaGreatDoor

namespace Go.Proofs.YtgkalcboklhdgaaGreatDoor
open Go.RowKit
set_option linter.unusedVariables false
set_option linter.unusedSimpArgs false

theorem isName_up {w : World} {l : List UInt8} {r : Bool} {U : Up w} (C : ∀ W, Gives Tryz.prog 53 #[sV l] W (.bool r)) : Calls Tryz.prog 53 #[sV l] U.W fun e w'' => e = .returned (.bool r) ∧ ∃ U' : Up w, w'' = U'.W := Up.call (C _)
theorem IsName_up {w : World} {l : List UInt8} {r : Bool} {U : Up w} (C : ∀ W, Gives Tryz.prog 51 #[sV l] W (.bool r)) : Calls Tryz.prog 51 #[sV l] U.W fun e w'' => e = .returned (.bool r) ∧ ∃ U' : Up w, w'' = U'.W := Up.call (C _)
/-- a box of three values, laid ahead of wr -/
theorem Up.box3 {w : World} {x0 x1 x2 : Value} {t : TypeId} : ∀ U : Up (w.alloc (.cells #[x0, x1, x2] t)), U.W.cell? ⟨w.heap.size, 0, none⟩ = some x0 ∧ U.W.cell? ⟨w.heap.size, 1, none⟩ = some x1 ∧ U.W.cell? ⟨w.heap.size, 2, none⟩ = some x2 ∧ Ext w U.W := fun U => by
  have hb : U.W.heap[w.heap.size]? = some (.cells #[x0, x1, x2] t (0, 0)) := (U.ext.below.block _ (by simp)).trans (alloc_here _ _)
  exact ⟨cell_of hb rfl, cell_of hb rfl, cell_of hb rfl, Ext.trans ((Below.refl w.heap.size w).alloc (Nat.le_refl _) _) U.ext⟩

set_option maxRecDepth 100000 in
set_option maxHeartbeats 8000000 in
theorem bound_any (bs : List Bn) (p : Option Addr) (c : Nat) (w : World) (hA : BAt w p bs) : Gives Tryz.prog 40 #[.slice p bs.length c] w (.bool (bnds bs)) := by
  have HY := Lib.hid (bnds_yes bs)
  have HN := Lib.hid (bnds_no bs)
  have hl := hA.1.1
  have HB := Lib.hid (show bnds bs = (bnsOk none bs && decide (bs.length ≤ 64)) from rfl)
  have HA := Lib.hid hA
  clear hA
  generalize bnds bs = r at *
  unfold Gives
  go_enter Tryz.func40, Tryz.ntmps40
  go_wp2
  go_loopw [9] (fun i wr => ∃ j : Nat, j ≤ bs.length ∧ i = .int .i64 (j : Int) ∧ bnsOk none (bs.take j) = true ∧ Ext w wr) (fun i _ => bs.length - (intOf i).toNat)
  case atStart => exact ⟨0, Nat.zero_le _, rfl, rfl, Below.refl _ _⟩
  case round =>
    obtain ⟨j, hj, rfl, hk, hE⟩ := hrel
    have HK := Lib.hid hk
    have HE := Lib.hid hE
    clear hk
    by_cases hlt : j < bs.length
    · obtain ⟨b, off, rfl, hcs⟩ := (HA.out.below hE).2 j hlt
      have hyes := Lib.hid (HY.out j hlt HK.out)
      have hno := Lib.hid (HN.out j hlt)
      have hft := (HA.out.1.2 _ (List.getElem_mem hlt)).1
      have hfv : Ex.wf (bs[j]).value := (HA.out.1.2 _ (List.getElem_mem hlt)).2.2
      have IN := Lib.hid (fun W => isName_any (bs[j]).name W hft)
      have hprev : j ≠ 0 → ∃ n, prevOf bs j none = some n ∧ wr.cell? ⟨b, off + (j - 1) * 3, none⟩ = some (sV n) := fun h0 => by
        have h1 : j - 1 < bs.length := by omega
        obtain ⟨b', off', e, hc⟩ := (HA.out.below hE).2 (j - 1) h1
        cases e
        exact ⟨(bs[j - 1]).name, by simp [prevOf, h0, h1], hc.1⟩
      have hp0 : j = 0 → prevOf bs j none = none := fun h0 => by simp [prevOf, h0]
      generalize prevOf bs j none = pv at *
      obtain ⟨c0, c1, c2⟩ := hcs
      obtain ⟨bj, hbj⟩ : ∃ x, x = bs[j] := ⟨_, rfl⟩
      rw [← hbj] at hyes hno hft hfv IN c0 c1 c2
      clear hbj hE
      obtain ⟨nm, ty, v⟩ := bj
      dsimp only at c0 c1 c2 hft hfv IN hyes hno
      have d0 := fun U : Up wr => Up.cell c0 U
      have u1 := fun U : Up (wr.alloc (.cells #[sV nm, .int .i64 ty, .int .i64 v] 39)) => (Up.box3 U).1
      have u2 := fun U : Up (wr.alloc (.cells #[sV nm, .int .i64 ty, .int .i64 v] 39)) => (Up.box3 U).2.1
      have u3 := fun U : Up (wr.alloc (.cells #[sV nm, .int .i64 ty, .int .i64 v] 39)) => (Up.box3 U).2.2.1
      have u0 := fun U : Up (wr.alloc (.cells #[sV nm, .int .i64 ty, .int .i64 v] 39)) => (Up.box3 U).2.2.2
      cases hnm : isNm nm
      · rw [hnm] at IN
        rcases (show ty = 2 ∨ ty ≠ 2 by omega) with rfl | h2
        · have u4 := u1
          go_wp2
          refine wp_region_up (by kernel_rfl) (by kernel_rfl) ?_
          repeat (go_big_quiet_step ((go_at_call 53; exact isName_up IN.out)))
          refine wpQuiet_nil ?_
          rintro w4 ⟨U, rfl⟩
          have hE4 := Lib.hid (Ext.trans HE.out (u0 U))
          generalize U.W = w4 at *
          clear u1 u2 u3 u4 u0
          have HZ := Lib.hid (hno.out (Bn.ok_nm hnm))
          go_wp2
          all_goals (go_ret; exact ⟨by rw [HZ.out]; rfl, hE4.out⟩)
        · have u4 := u1
          have q1 : (ty == 2) = false := by simpa using h2
          have q2 : (ty != 2) = true := by simpa using h2
          go_wp2
          refine wp_region_up (by kernel_rfl) (by kernel_rfl) ?_
          repeat (go_big_quiet_step ((go_at_call 53; exact isName_up IN.out)))
          refine wpQuiet_nil ?_
          rintro w4 ⟨U, rfl⟩
          have hE4 := Lib.hid (Ext.trans HE.out (u0 U))
          generalize U.W = w4 at *
          clear u1 u2 u3 u4 u0
          have HZ := Lib.hid (hno.out (Bn.ok_nm hnm))
          go_wp2
          all_goals (go_ret; exact ⟨by rw [HZ.out]; rfl, hE4.out⟩)
      · rw [hnm] at IN
        by_cases h0 : j = 0
        · have u4 := u1
          have hp1 : prevLt pv nm = true := by rw [hp0 h0]; rfl
          have hz : decide (0 < j) = false := by simp; omega
          clear h0 hp0 hprev
          by_cases h2 : ty = 2
          · subst h2
            rcases (show v = 0 ∨ v = 1 ∨ v < 0 ∨ 1 < v by omega) with rfl | rfl | hv1 | hv1
            · skip
              go_wp2
              refine wp_region_up (by kernel_rfl) (by kernel_rfl) ?_
              repeat (go_big_quiet_step ((go_at_call 53; exact isName_up IN.out)))
              refine wpQuiet_nil ?_
              rintro w4 ⟨U, rfl⟩
              have hE4 := Lib.hid (Ext.trans HE.out (u0 U))
              generalize U.W = w4 at *
              clear u1 u2 u3 u4 u0
              have HZ := Lib.hid (hyes.out (Bn.ok_yes hnm hp1 (.inl ⟨rfl, .inl rfl⟩)))
              go_wp2
              go_roundw
              case rel => exact ⟨j + 1, by omega, by go_num, HZ.out, hE4.out⟩
              case measure => simp [intOf]; omega
            · skip
              go_wp2
              refine wp_region_up (by kernel_rfl) (by kernel_rfl) ?_
              repeat (go_big_quiet_step ((go_at_call 53; exact isName_up IN.out)))
              refine wpQuiet_nil ?_
              rintro w4 ⟨U, rfl⟩
              have hE4 := Lib.hid (Ext.trans HE.out (u0 U))
              generalize U.W = w4 at *
              clear u1 u2 u3 u4 u0
              have HZ := Lib.hid (hyes.out (Bn.ok_yes hnm hp1 (.inl ⟨rfl, .inr rfl⟩)))
              go_wp2
              go_roundw
              case rel => exact ⟨j + 1, by omega, by go_num, HZ.out, hE4.out⟩
              case measure => simp [intOf]; omega
            · skip
              go_wp2
              refine wp_region_up (by kernel_rfl) (by kernel_rfl) ?_
              repeat (go_big_quiet_step ((go_at_call 53; exact isName_up IN.out)))
              refine wpQuiet_nil ?_
              rintro w4 ⟨U, rfl⟩
              have hE4 := Lib.hid (Ext.trans HE.out (u0 U))
              generalize U.W = w4 at *
              clear u1 u2 u3 u4 u0
              have HZ := Lib.hid (hno.out (Bn.ok_b rfl (show v ≠ 0 by omega) (show v ≠ 1 by omega)))
              go_wp2
              all_goals (go_ret; exact ⟨by rw [HZ.out]; rfl, hE4.out⟩)
            · skip
              have q9 : decide (v < 0) = false := by simp; omega
              go_wp2
              refine wp_region_up (by kernel_rfl) (by kernel_rfl) ?_
              repeat (go_big_quiet_step ((go_at_call 53; exact isName_up IN.out)))
              refine wpQuiet_nil ?_
              rintro w4 ⟨U, rfl⟩
              have hE4 := Lib.hid (Ext.trans HE.out (u0 U))
              generalize U.W = w4 at *
              clear u1 u2 u3 u4 u0
              have HZ := Lib.hid (hno.out (Bn.ok_b rfl (show v ≠ 0 by omega) (show v ≠ 1 by omega)))
              go_wp2
              all_goals (go_ret; exact ⟨by rw [HZ.out]; rfl, hE4.out⟩)
          · by_cases h1 : ty = 1
            · subst h1
              rcases (show (-1099511627776 ≤ v ∧ v ≤ 1099511627776) ∨ v < -1099511627776 ∨ 1099511627776 < v by omega) with ⟨hv1, hv2⟩ | hv1 | hv1
              · skip
                have q9 : decide (v < -1099511627776) = false := by simp; omega
                have q10 : decide (1099511627776 < v) = false := by simp; omega
                go_wp2
                refine wp_region_up (by kernel_rfl) (by kernel_rfl) ?_
                repeat (go_big_quiet_step ((go_at_call 53; exact isName_up IN.out)))
                refine wpQuiet_nil ?_
                rintro w4 ⟨U, rfl⟩
                have hE4 := Lib.hid (Ext.trans HE.out (u0 U))
                generalize U.W = w4 at *
                clear u1 u2 u3 u4 u0
                have HZ := Lib.hid (hyes.out (Bn.ok_yes hnm hp1 (.inr ⟨rfl, hv1, hv2⟩)))
                go_wp2
                go_roundw
                case rel => exact ⟨j + 1, by omega, by go_num, HZ.out, hE4.out⟩
                case measure => simp [intOf]; omega
              · skip
                go_wp2
                refine wp_region_up (by kernel_rfl) (by kernel_rfl) ?_
                repeat (go_big_quiet_step ((go_at_call 53; exact isName_up IN.out)))
                refine wpQuiet_nil ?_
                rintro w4 ⟨U, rfl⟩
                have hE4 := Lib.hid (Ext.trans HE.out (u0 U))
                generalize U.W = w4 at *
                clear u1 u2 u3 u4 u0
                have HZ := Lib.hid (hno.out (Bn.ok_i rfl (fun h => absurd h.1 (by show ¬ (-1099511627776 ≤ v); omega))))
                go_wp2
                all_goals (go_ret; exact ⟨by rw [HZ.out]; rfl, hE4.out⟩)
              · skip
                have q9 : decide (v < -1099511627776) = false := by simp; omega
                go_wp2
                refine wp_region_up (by kernel_rfl) (by kernel_rfl) ?_
                repeat (go_big_quiet_step ((go_at_call 53; exact isName_up IN.out)))
                refine wpQuiet_nil ?_
                rintro w4 ⟨U, rfl⟩
                have hE4 := Lib.hid (Ext.trans HE.out (u0 U))
                generalize U.W = w4 at *
                clear u1 u2 u3 u4 u0
                have HZ := Lib.hid (hno.out (Bn.ok_i rfl (fun h => absurd h.2 (by show ¬ (v ≤ 1099511627776); omega))))
                go_wp2
                all_goals (go_ret; exact ⟨by rw [HZ.out]; rfl, hE4.out⟩)
            · skip
              have q1 : (ty == 2) = false := by simpa using h2
              have q2 : (ty != 2) = true := by simpa using h2
              have q3 : (ty == 1) = false := by simpa using h1
              have q4 : (ty != 1) = true := by simpa using h1
              go_wp2
              refine wp_region_up (by kernel_rfl) (by kernel_rfl) ?_
              repeat (go_big_quiet_step ((go_at_call 53; exact isName_up IN.out)))
              refine wpQuiet_nil ?_
              rintro w4 ⟨U, rfl⟩
              have hE4 := Lib.hid (Ext.trans HE.out (u0 U))
              generalize U.W = w4 at *
              clear u1 u2 u3 u4 u0
              have HZ := Lib.hid (hno.out (Bn.ok_ty h1 h2))
              go_wp2
              all_goals (go_ret; exact ⟨by rw [HZ.out]; rfl, hE4.out⟩)
        · obtain ⟨m, rfl, hm⟩ := hprev h0
          obtain ⟨i, hi⟩ : ∃ i, j = i + 1 := ⟨j - 1, by omega⟩
          rw [show j - 1 = i by omega] at hm
          have hs : IntKind.i64.wrap ((j : Int) - 1) = (i : Int) := by rw [wrapi (by omega) (by omega)]; omega
          have hs2 : (j : Int) - 1 = (i : Int) := by omega
          have hi2 : i < bs.length := by omega
          have hz : 0 < j := by omega
          have u4 := fun U : Up (wr.alloc (.cells #[sV nm, .int .i64 ty, .int .i64 v] 39)) => (Up.box3 U).2.2.2.below.cell (p := ⟨b, off + i * 3, none⟩) (Ex.cell_lt' hm) |>.trans hm
          clear h0 hp0 hprev hi hm
          cases hlt2 : Op.bytesLess m nm
          · rcases (show ty = 2 ∨ ty ≠ 2 by omega) with rfl | h2
            · skip
              go_wp2
              refine wp_region_up (by kernel_rfl) (by kernel_rfl) ?_
              repeat (go_big_quiet_step ((go_at_call 53; exact isName_up IN.out)))
              refine wpQuiet_nil ?_
              rintro w4 ⟨U, rfl⟩
              have hE4 := Lib.hid (Ext.trans HE.out (u0 U))
              generalize U.W = w4 at *
              clear u1 u2 u3 u4 u0
              have HZ := Lib.hid (hno.out (Bn.ok_lt hlt2))
              go_wp2
              all_goals (go_ret; exact ⟨by rw [HZ.out]; rfl, hE4.out⟩)
            · skip
              have q1 : (ty == 2) = false := by simpa using h2
              have q2 : (ty != 2) = true := by simpa using h2
              go_wp2
              refine wp_region_up (by kernel_rfl) (by kernel_rfl) ?_
              repeat (go_big_quiet_step ((go_at_call 53; exact isName_up IN.out)))
              refine wpQuiet_nil ?_
              rintro w4 ⟨U, rfl⟩
              have hE4 := Lib.hid (Ext.trans HE.out (u0 U))
              generalize U.W = w4 at *
              clear u1 u2 u3 u4 u0
              have HZ := Lib.hid (hno.out (Bn.ok_lt hlt2))
              go_wp2
              all_goals (go_ret; exact ⟨by rw [HZ.out]; rfl, hE4.out⟩)
          · have hp1 : prevLt (some m) nm = true := hlt2
            by_cases h2 : ty = 2
            · subst h2
              rcases (show v = 0 ∨ v = 1 ∨ v < 0 ∨ 1 < v by omega) with rfl | rfl | hv1 | hv1
              · skip
                go_wp2
                refine wp_region_up (by kernel_rfl) (by kernel_rfl) ?_
                repeat (go_big_quiet_step ((go_at_call 53; exact isName_up IN.out)))
                refine wpQuiet_nil ?_
                rintro w4 ⟨U, rfl⟩
                have hE4 := Lib.hid (Ext.trans HE.out (u0 U))
                generalize U.W = w4 at *
                clear u1 u2 u3 u4 u0
                have HZ := Lib.hid (hyes.out (Bn.ok_yes hnm hp1 (.inl ⟨rfl, .inl rfl⟩)))
                go_wp2
                go_roundw
                case rel => exact ⟨j + 1, by omega, by go_num, HZ.out, hE4.out⟩
                case measure => simp [intOf]; omega
              · skip
                go_wp2
                refine wp_region_up (by kernel_rfl) (by kernel_rfl) ?_
                repeat (go_big_quiet_step ((go_at_call 53; exact isName_up IN.out)))
                refine wpQuiet_nil ?_
                rintro w4 ⟨U, rfl⟩
                have hE4 := Lib.hid (Ext.trans HE.out (u0 U))
                generalize U.W = w4 at *
                clear u1 u2 u3 u4 u0
                have HZ := Lib.hid (hyes.out (Bn.ok_yes hnm hp1 (.inl ⟨rfl, .inr rfl⟩)))
                go_wp2
                go_roundw
                case rel => exact ⟨j + 1, by omega, by go_num, HZ.out, hE4.out⟩
                case measure => simp [intOf]; omega
              · skip
                go_wp2
                refine wp_region_up (by kernel_rfl) (by kernel_rfl) ?_
                repeat (go_big_quiet_step ((go_at_call 53; exact isName_up IN.out)))
                refine wpQuiet_nil ?_
                rintro w4 ⟨U, rfl⟩
                have hE4 := Lib.hid (Ext.trans HE.out (u0 U))
                generalize U.W = w4 at *
                clear u1 u2 u3 u4 u0
                have HZ := Lib.hid (hno.out (Bn.ok_b rfl (show v ≠ 0 by omega) (show v ≠ 1 by omega)))
                go_wp2
                all_goals (go_ret; exact ⟨by rw [HZ.out]; rfl, hE4.out⟩)
              · skip
                have q9 : decide (v < 0) = false := by simp; omega
                go_wp2
                refine wp_region_up (by kernel_rfl) (by kernel_rfl) ?_
                repeat (go_big_quiet_step ((go_at_call 53; exact isName_up IN.out)))
                refine wpQuiet_nil ?_
                rintro w4 ⟨U, rfl⟩
                have hE4 := Lib.hid (Ext.trans HE.out (u0 U))
                generalize U.W = w4 at *
                clear u1 u2 u3 u4 u0
                have HZ := Lib.hid (hno.out (Bn.ok_b rfl (show v ≠ 0 by omega) (show v ≠ 1 by omega)))
                go_wp2
                all_goals (go_ret; exact ⟨by rw [HZ.out]; rfl, hE4.out⟩)
            · by_cases h1 : ty = 1
              · subst h1
                rcases (show (-1099511627776 ≤ v ∧ v ≤ 1099511627776) ∨ v < -1099511627776 ∨ 1099511627776 < v by omega) with ⟨hv1, hv2⟩ | hv1 | hv1
                · skip
                  have q9 : decide (v < -1099511627776) = false := by simp; omega
                  have q10 : decide (1099511627776 < v) = false := by simp; omega
                  go_wp2
                  refine wp_region_up (by kernel_rfl) (by kernel_rfl) ?_
                  repeat (go_big_quiet_step ((go_at_call 53; exact isName_up IN.out)))
                  refine wpQuiet_nil ?_
                  rintro w4 ⟨U, rfl⟩
                  have hE4 := Lib.hid (Ext.trans HE.out (u0 U))
                  generalize U.W = w4 at *
                  clear u1 u2 u3 u4 u0
                  have HZ := Lib.hid (hyes.out (Bn.ok_yes hnm hp1 (.inr ⟨rfl, hv1, hv2⟩)))
                  go_wp2
                  go_roundw
                  case rel => exact ⟨j + 1, by omega, by go_num, HZ.out, hE4.out⟩
                  case measure => simp [intOf]; omega
                · skip
                  go_wp2
                  refine wp_region_up (by kernel_rfl) (by kernel_rfl) ?_
                  repeat (go_big_quiet_step ((go_at_call 53; exact isName_up IN.out)))
                  refine wpQuiet_nil ?_
                  rintro w4 ⟨U, rfl⟩
                  have hE4 := Lib.hid (Ext.trans HE.out (u0 U))
                  generalize U.W = w4 at *
                  clear u1 u2 u3 u4 u0
                  have HZ := Lib.hid (hno.out (Bn.ok_i rfl (fun h => absurd h.1 (by show ¬ (-1099511627776 ≤ v); omega))))
                  go_wp2
                  all_goals (go_ret; exact ⟨by rw [HZ.out]; rfl, hE4.out⟩)
                · skip
                  have q9 : decide (v < -1099511627776) = false := by simp; omega
                  go_wp2
                  refine wp_region_up (by kernel_rfl) (by kernel_rfl) ?_
                  repeat (go_big_quiet_step ((go_at_call 53; exact isName_up IN.out)))
                  refine wpQuiet_nil ?_
                  rintro w4 ⟨U, rfl⟩
                  have hE4 := Lib.hid (Ext.trans HE.out (u0 U))
                  generalize U.W = w4 at *
                  clear u1 u2 u3 u4 u0
                  have HZ := Lib.hid (hno.out (Bn.ok_i rfl (fun h => absurd h.2 (by show ¬ (v ≤ 1099511627776); omega))))
                  go_wp2
                  all_goals (go_ret; exact ⟨by rw [HZ.out]; rfl, hE4.out⟩)
              · skip
                have q1 : (ty == 2) = false := by simpa using h2
                have q2 : (ty != 2) = true := by simpa using h2
                have q3 : (ty == 1) = false := by simpa using h1
                have q4 : (ty != 1) = true := by simpa using h1
                go_wp2
                refine wp_region_up (by kernel_rfl) (by kernel_rfl) ?_
                repeat (go_big_quiet_step ((go_at_call 53; exact isName_up IN.out)))
                refine wpQuiet_nil ?_
                rintro w4 ⟨U, rfl⟩
                have hE4 := Lib.hid (Ext.trans HE.out (u0 U))
                generalize U.W = w4 at *
                clear u1 u2 u3 u4 u0
                have HZ := Lib.hid (hno.out (Bn.ok_ty h1 h2))
                go_wp2
                all_goals (go_ret; exact ⟨by rw [HZ.out]; rfl, hE4.out⟩)
    · have hk2 : bs.take j = bs := List.take_of_length_le (by omega)
      have HZ := Lib.hid (show r = decide (bs.length ≤ 64) by rw [HB.out]; have := HK.out; rw [hk2] at this; rw [this]; rfl)
      clear hk2
      go_wp2
      go_ret
      exact ⟨ret_bool (by rw [HZ.out, Bool.eq_iff_iff]; simp; try omega), hE⟩

end Go.Proofs.YtgkalcboklhdgaaGreatDoor

namespace Go.Proofs.YtgkalcboklhdgaaGreatDoor
open Go.RowKit
set_option linter.unusedVariables false
set_option linter.unusedSimpArgs false

set_option maxRecDepth 100000 in
set_option maxHeartbeats 8000000 in
theorem refBound_any (bs : List Bn) (p : Option Addr) (c : Nat) (w : World) (hA : BAt w p bs) : Gives Tryz.prog 24 #[.slice p bs.length c] w (.int .i64 (if bnds bs then 0 else 1)) := by
  have HY := Lib.hid (bnds_yes bs)
  have HN := Lib.hid (bnds_no bs)
  have hl := hA.1.1
  have HB := Lib.hid (show bnds bs = (bnsOk none bs && decide (bs.length ≤ 64)) from rfl)
  have HA := Lib.hid hA
  clear hA
  generalize bnds bs = r at *
  unfold Gives
  have HT := Lib.hid (show r = true → (if r = true then (0 : Int) else 1) = 0 from fun h => by rw [h]; rfl)
  have HF := Lib.hid (show r = false → (if r = true then (0 : Int) else 1) = 1 from fun h => by rw [h]; rfl)
  generalize (if r = true then (0 : Int) else 1) = z at *
  by_cases h64 : 64 < bs.length
  · have HR := Lib.hid (show r = false by rw [HB.out]; simp; omega)
    go_enter Tryz.func24, Tryz.ntmps24
    go_wp2
    go_ret
    exact ⟨by rw [HF.out HR.out]; rfl, Below.refl _ _⟩
  go_enter Tryz.func24, Tryz.ntmps24
  go_wp2
  go_loopw [3] (fun i wr => ∃ j : Nat, j ≤ bs.length ∧ i = .int .i64 (j : Int) ∧ bnsOk none (bs.take j) = true ∧ Ext w wr) (fun i _ => bs.length - (intOf i).toNat)
  case atStart => exact ⟨0, Nat.zero_le _, rfl, rfl, Below.refl _ _⟩
  case round =>
    obtain ⟨j, hj, rfl, hk, hE⟩ := hrel
    have HK := Lib.hid hk
    have HE := Lib.hid hE
    clear hk
    by_cases hlt : j < bs.length
    · obtain ⟨b, off, rfl, hcs⟩ := (HA.out.below hE).2 j hlt
      have hyes := Lib.hid (HY.out j hlt HK.out)
      have hno := Lib.hid (HN.out j hlt)
      have hft := (HA.out.1.2 _ (List.getElem_mem hlt)).1
      have hfv : Ex.wf (bs[j]).value := (HA.out.1.2 _ (List.getElem_mem hlt)).2.2
      have IN := Lib.hid (fun W => IsName_any (bs[j]).name W)
      have hprev : j ≠ 0 → ∃ n, prevOf bs j none = some n ∧ wr.cell? ⟨b, off + (j - 1) * 3, none⟩ = some (sV n) := fun h0 => by
        have h1 : j - 1 < bs.length := by omega
        obtain ⟨b', off', e, hc⟩ := (HA.out.below hE).2 (j - 1) h1
        cases e
        exact ⟨(bs[j - 1]).name, by simp [prevOf, h0, h1], hc.1⟩
      have hp0 : j = 0 → prevOf bs j none = none := fun h0 => by simp [prevOf, h0]
      generalize prevOf bs j none = pv at *
      obtain ⟨c0, c1, c2⟩ := hcs
      obtain ⟨bj, hbj⟩ : ∃ x, x = bs[j] := ⟨_, rfl⟩
      rw [← hbj] at hyes hno hft hfv IN c0 c1 c2
      clear hbj hE
      obtain ⟨nm, ty, v⟩ := bj
      dsimp only at c0 c1 c2 hft hfv IN hyes hno
      have d0 := fun U : Up wr => Up.cell c0 U
      have u1 := fun U : Up (wr.alloc (.cells #[sV nm, .int .i64 ty, .int .i64 v] 39)) => (Up.box3 U).1
      have u2 := fun U : Up (wr.alloc (.cells #[sV nm, .int .i64 ty, .int .i64 v] 39)) => (Up.box3 U).2.1
      have u3 := fun U : Up (wr.alloc (.cells #[sV nm, .int .i64 ty, .int .i64 v] 39)) => (Up.box3 U).2.2.1
      have u0 := fun U : Up (wr.alloc (.cells #[sV nm, .int .i64 ty, .int .i64 v] 39)) => (Up.box3 U).2.2.2
      cases hnm : isNm nm
      · rw [hnm] at IN
        rcases (show ty = 2 ∨ ty ≠ 2 by omega) with rfl | h2
        · have u4 := u1
          go_wp2
          refine wp_region_up (by kernel_rfl) (by kernel_rfl) ?_
          repeat (go_big_quiet_step ((go_at_call 51; exact IsName_up IN.out)))
          refine wpQuiet_nil ?_
          rintro w4 ⟨U, rfl⟩
          have hE4 := Lib.hid (Ext.trans HE.out (u0 U))
          have e2 := u2 U
          have e3 := u3 U
          generalize U.W = w4 at *
          clear u1 u2 u3 u4 u0
          have HZ := Lib.hid (hno.out (Bn.ok_nm hnm))
          go_wp2
          all_goals (go_ret; exact ⟨by rw [HF.out HZ.out]; rfl, hE4.out⟩)
        · have u4 := u1
          have q1 : (ty == 2) = false := by simpa using h2
          have q2 : (ty != 2) = true := by simpa using h2
          go_wp2
          refine wp_region_up (by kernel_rfl) (by kernel_rfl) ?_
          repeat (go_big_quiet_step ((go_at_call 51; exact IsName_up IN.out)))
          refine wpQuiet_nil ?_
          rintro w4 ⟨U, rfl⟩
          have hE4 := Lib.hid (Ext.trans HE.out (u0 U))
          have e2 := u2 U
          have e3 := u3 U
          generalize U.W = w4 at *
          clear u1 u2 u3 u4 u0
          have HZ := Lib.hid (hno.out (Bn.ok_nm hnm))
          go_wp2
          all_goals (go_ret; exact ⟨by rw [HF.out HZ.out]; rfl, hE4.out⟩)
      · rw [hnm] at IN
        by_cases h0 : j = 0
        · have u4 := u1
          have hp1 : prevLt pv nm = true := by rw [hp0 h0]; rfl
          have hz : decide (0 < j) = false := by simp; omega
          clear h0 hp0 hprev
          by_cases h2 : ty = 2
          · subst h2
            rcases (show v = 0 ∨ v = 1 ∨ v < 0 ∨ 1 < v by omega) with rfl | rfl | hv1 | hv1
            · skip
              go_wp2
              refine wp_region_up (by kernel_rfl) (by kernel_rfl) ?_
              repeat (go_big_quiet_step ((go_at_call 51; exact IsName_up IN.out)))
              refine wpQuiet_nil ?_
              rintro w4 ⟨U, rfl⟩
              have hE4 := Lib.hid (Ext.trans HE.out (u0 U))
              have e2 := u2 U
              have e3 := u3 U
              generalize U.W = w4 at *
              clear u1 u2 u3 u4 u0
              have HZ := Lib.hid (hyes.out (Bn.ok_yes hnm hp1 (.inl ⟨rfl, .inl rfl⟩)))
              go_wp2
              go_roundw
              case rel => exact ⟨j + 1, by omega, by go_num, HZ.out, hE4.out⟩
              case measure => simp [intOf]; omega
            · skip
              go_wp2
              refine wp_region_up (by kernel_rfl) (by kernel_rfl) ?_
              repeat (go_big_quiet_step ((go_at_call 51; exact IsName_up IN.out)))
              refine wpQuiet_nil ?_
              rintro w4 ⟨U, rfl⟩
              have hE4 := Lib.hid (Ext.trans HE.out (u0 U))
              have e2 := u2 U
              have e3 := u3 U
              generalize U.W = w4 at *
              clear u1 u2 u3 u4 u0
              have HZ := Lib.hid (hyes.out (Bn.ok_yes hnm hp1 (.inl ⟨rfl, .inr rfl⟩)))
              go_wp2
              go_roundw
              case rel => exact ⟨j + 1, by omega, by go_num, HZ.out, hE4.out⟩
              case measure => simp [intOf]; omega
            · skip
              have q5 : (v == 0) = false := by simp; omega
              have q6 : (v != 0) = true := by simp; omega
              have q7 : (v == 1) = false := by simp; omega
              have q8 : (v != 1) = true := by simp; omega
              go_wp2
              refine wp_region_up (by kernel_rfl) (by kernel_rfl) ?_
              repeat (go_big_quiet_step ((go_at_call 51; exact IsName_up IN.out)))
              refine wpQuiet_nil ?_
              rintro w4 ⟨U, rfl⟩
              have hE4 := Lib.hid (Ext.trans HE.out (u0 U))
              have e2 := u2 U
              have e3 := u3 U
              generalize U.W = w4 at *
              clear u1 u2 u3 u4 u0
              have HZ := Lib.hid (hno.out (Bn.ok_b rfl (show v ≠ 0 by omega) (show v ≠ 1 by omega)))
              go_wp2
              all_goals (go_ret; exact ⟨by rw [HF.out HZ.out]; rfl, hE4.out⟩)
            · skip
              have q5 : (v == 0) = false := by simp; omega
              have q6 : (v != 0) = true := by simp; omega
              have q7 : (v == 1) = false := by simp; omega
              have q8 : (v != 1) = true := by simp; omega
              have q9 : decide (v < 0) = false := by simp; omega
              go_wp2
              refine wp_region_up (by kernel_rfl) (by kernel_rfl) ?_
              repeat (go_big_quiet_step ((go_at_call 51; exact IsName_up IN.out)))
              refine wpQuiet_nil ?_
              rintro w4 ⟨U, rfl⟩
              have hE4 := Lib.hid (Ext.trans HE.out (u0 U))
              have e2 := u2 U
              have e3 := u3 U
              generalize U.W = w4 at *
              clear u1 u2 u3 u4 u0
              have HZ := Lib.hid (hno.out (Bn.ok_b rfl (show v ≠ 0 by omega) (show v ≠ 1 by omega)))
              go_wp2
              all_goals (go_ret; exact ⟨by rw [HF.out HZ.out]; rfl, hE4.out⟩)
          · by_cases h1 : ty = 1
            · subst h1
              rcases (show (-1099511627776 ≤ v ∧ v ≤ 1099511627776) ∨ v < -1099511627776 ∨ 1099511627776 < v by omega) with ⟨hv1, hv2⟩ | hv1 | hv1
              · skip
                have q9 : decide (v < -1099511627776) = false := by simp; omega
                have q10 : decide (1099511627776 < v) = false := by simp; omega
                go_wp2
                refine wp_region_up (by kernel_rfl) (by kernel_rfl) ?_
                repeat (go_big_quiet_step ((go_at_call 51; exact IsName_up IN.out)))
                refine wpQuiet_nil ?_
                rintro w4 ⟨U, rfl⟩
                have hE4 := Lib.hid (Ext.trans HE.out (u0 U))
                have e2 := u2 U
                have e3 := u3 U
                generalize U.W = w4 at *
                clear u1 u2 u3 u4 u0
                have HZ := Lib.hid (hyes.out (Bn.ok_yes hnm hp1 (.inr ⟨rfl, hv1, hv2⟩)))
                go_wp2
                go_roundw
                case rel => exact ⟨j + 1, by omega, by go_num, HZ.out, hE4.out⟩
                case measure => simp [intOf]; omega
              · skip
                go_wp2
                refine wp_region_up (by kernel_rfl) (by kernel_rfl) ?_
                repeat (go_big_quiet_step ((go_at_call 51; exact IsName_up IN.out)))
                refine wpQuiet_nil ?_
                rintro w4 ⟨U, rfl⟩
                have hE4 := Lib.hid (Ext.trans HE.out (u0 U))
                have e2 := u2 U
                have e3 := u3 U
                generalize U.W = w4 at *
                clear u1 u2 u3 u4 u0
                have HZ := Lib.hid (hno.out (Bn.ok_i rfl (fun h => absurd h.1 (by show ¬ (-1099511627776 ≤ v); omega))))
                go_wp2
                all_goals (go_ret; exact ⟨by rw [HF.out HZ.out]; rfl, hE4.out⟩)
              · skip
                have q9 : decide (v < -1099511627776) = false := by simp; omega
                go_wp2
                refine wp_region_up (by kernel_rfl) (by kernel_rfl) ?_
                repeat (go_big_quiet_step ((go_at_call 51; exact IsName_up IN.out)))
                refine wpQuiet_nil ?_
                rintro w4 ⟨U, rfl⟩
                have hE4 := Lib.hid (Ext.trans HE.out (u0 U))
                have e2 := u2 U
                have e3 := u3 U
                generalize U.W = w4 at *
                clear u1 u2 u3 u4 u0
                have HZ := Lib.hid (hno.out (Bn.ok_i rfl (fun h => absurd h.2 (by show ¬ (v ≤ 1099511627776); omega))))
                go_wp2
                all_goals (go_ret; exact ⟨by rw [HF.out HZ.out]; rfl, hE4.out⟩)
            · skip
              have q1 : (ty == 2) = false := by simpa using h2
              have q2 : (ty != 2) = true := by simpa using h2
              have q3 : (ty == 1) = false := by simpa using h1
              have q4 : (ty != 1) = true := by simpa using h1
              go_wp2
              refine wp_region_up (by kernel_rfl) (by kernel_rfl) ?_
              repeat (go_big_quiet_step ((go_at_call 51; exact IsName_up IN.out)))
              refine wpQuiet_nil ?_
              rintro w4 ⟨U, rfl⟩
              have hE4 := Lib.hid (Ext.trans HE.out (u0 U))
              have e2 := u2 U
              have e3 := u3 U
              generalize U.W = w4 at *
              clear u1 u2 u3 u4 u0
              have HZ := Lib.hid (hno.out (Bn.ok_ty h1 h2))
              go_wp2
              all_goals (go_ret; exact ⟨by rw [HF.out HZ.out]; rfl, hE4.out⟩)
        · obtain ⟨m, rfl, hm⟩ := hprev h0
          obtain ⟨i, hi⟩ : ∃ i, j = i + 1 := ⟨j - 1, by omega⟩
          rw [show j - 1 = i by omega] at hm
          have hs : IntKind.i64.wrap ((j : Int) - 1) = (i : Int) := by rw [wrapi (by omega) (by omega)]; omega
          have hs2 : (j : Int) - 1 = (i : Int) := by omega
          have hi2 : i < bs.length := by omega
          have hz : 0 < j := by omega
          have u4 := fun U : Up (wr.alloc (.cells #[sV nm, .int .i64 ty, .int .i64 v] 39)) => (Up.box3 U).2.2.2.below.cell (p := ⟨b, off + i * 3, none⟩) (Ex.cell_lt' hm) |>.trans hm
          clear h0 hp0 hprev hi hm
          cases hlt2 : Op.bytesLess m nm
          · rcases (show ty = 2 ∨ ty ≠ 2 by omega) with rfl | h2
            · skip
              go_wp2
              refine wp_region_up (by kernel_rfl) (by kernel_rfl) ?_
              repeat (go_big_quiet_step ((go_at_call 51; exact IsName_up IN.out)))
              refine wpQuiet_nil ?_
              rintro w4 ⟨U, rfl⟩
              have hE4 := Lib.hid (Ext.trans HE.out (u0 U))
              have e2 := u2 U
              have e3 := u3 U
              generalize U.W = w4 at *
              clear u1 u2 u3 u4 u0
              have HZ := Lib.hid (hno.out (Bn.ok_lt hlt2))
              go_wp2
              all_goals (go_ret; exact ⟨by rw [HF.out HZ.out]; rfl, hE4.out⟩)
            · skip
              have q1 : (ty == 2) = false := by simpa using h2
              have q2 : (ty != 2) = true := by simpa using h2
              go_wp2
              refine wp_region_up (by kernel_rfl) (by kernel_rfl) ?_
              repeat (go_big_quiet_step ((go_at_call 51; exact IsName_up IN.out)))
              refine wpQuiet_nil ?_
              rintro w4 ⟨U, rfl⟩
              have hE4 := Lib.hid (Ext.trans HE.out (u0 U))
              have e2 := u2 U
              have e3 := u3 U
              generalize U.W = w4 at *
              clear u1 u2 u3 u4 u0
              have HZ := Lib.hid (hno.out (Bn.ok_lt hlt2))
              go_wp2
              all_goals (go_ret; exact ⟨by rw [HF.out HZ.out]; rfl, hE4.out⟩)
          · have hp1 : prevLt (some m) nm = true := hlt2
            by_cases h2 : ty = 2
            · subst h2
              rcases (show v = 0 ∨ v = 1 ∨ v < 0 ∨ 1 < v by omega) with rfl | rfl | hv1 | hv1
              · skip
                go_wp2
                refine wp_region_up (by kernel_rfl) (by kernel_rfl) ?_
                repeat (go_big_quiet_step ((go_at_call 51; exact IsName_up IN.out)))
                refine wpQuiet_nil ?_
                rintro w4 ⟨U, rfl⟩
                have hE4 := Lib.hid (Ext.trans HE.out (u0 U))
                have e2 := u2 U
                have e3 := u3 U
                generalize U.W = w4 at *
                clear u1 u2 u3 u4 u0
                have HZ := Lib.hid (hyes.out (Bn.ok_yes hnm hp1 (.inl ⟨rfl, .inl rfl⟩)))
                go_wp2
                go_roundw
                case rel => exact ⟨j + 1, by omega, by go_num, HZ.out, hE4.out⟩
                case measure => simp [intOf]; omega
              · skip
                go_wp2
                refine wp_region_up (by kernel_rfl) (by kernel_rfl) ?_
                repeat (go_big_quiet_step ((go_at_call 51; exact IsName_up IN.out)))
                refine wpQuiet_nil ?_
                rintro w4 ⟨U, rfl⟩
                have hE4 := Lib.hid (Ext.trans HE.out (u0 U))
                have e2 := u2 U
                have e3 := u3 U
                generalize U.W = w4 at *
                clear u1 u2 u3 u4 u0
                have HZ := Lib.hid (hyes.out (Bn.ok_yes hnm hp1 (.inl ⟨rfl, .inr rfl⟩)))
                go_wp2
                go_roundw
                case rel => exact ⟨j + 1, by omega, by go_num, HZ.out, hE4.out⟩
                case measure => simp [intOf]; omega
              · skip
                have q5 : (v == 0) = false := by simp; omega
                have q6 : (v != 0) = true := by simp; omega
                have q7 : (v == 1) = false := by simp; omega
                have q8 : (v != 1) = true := by simp; omega
                go_wp2
                refine wp_region_up (by kernel_rfl) (by kernel_rfl) ?_
                repeat (go_big_quiet_step ((go_at_call 51; exact IsName_up IN.out)))
                refine wpQuiet_nil ?_
                rintro w4 ⟨U, rfl⟩
                have hE4 := Lib.hid (Ext.trans HE.out (u0 U))
                have e2 := u2 U
                have e3 := u3 U
                generalize U.W = w4 at *
                clear u1 u2 u3 u4 u0
                have HZ := Lib.hid (hno.out (Bn.ok_b rfl (show v ≠ 0 by omega) (show v ≠ 1 by omega)))
                go_wp2
                all_goals (go_ret; exact ⟨by rw [HF.out HZ.out]; rfl, hE4.out⟩)
              · skip
                have q5 : (v == 0) = false := by simp; omega
                have q6 : (v != 0) = true := by simp; omega
                have q7 : (v == 1) = false := by simp; omega
                have q8 : (v != 1) = true := by simp; omega
                have q9 : decide (v < 0) = false := by simp; omega
                go_wp2
                refine wp_region_up (by kernel_rfl) (by kernel_rfl) ?_
                repeat (go_big_quiet_step ((go_at_call 51; exact IsName_up IN.out)))
                refine wpQuiet_nil ?_
                rintro w4 ⟨U, rfl⟩
                have hE4 := Lib.hid (Ext.trans HE.out (u0 U))
                have e2 := u2 U
                have e3 := u3 U
                generalize U.W = w4 at *
                clear u1 u2 u3 u4 u0
                have HZ := Lib.hid (hno.out (Bn.ok_b rfl (show v ≠ 0 by omega) (show v ≠ 1 by omega)))
                go_wp2
                all_goals (go_ret; exact ⟨by rw [HF.out HZ.out]; rfl, hE4.out⟩)
            · by_cases h1 : ty = 1
              · subst h1
                rcases (show (-1099511627776 ≤ v ∧ v ≤ 1099511627776) ∨ v < -1099511627776 ∨ 1099511627776 < v by omega) with ⟨hv1, hv2⟩ | hv1 | hv1
                · skip
                  have q9 : decide (v < -1099511627776) = false := by simp; omega
                  have q10 : decide (1099511627776 < v) = false := by simp; omega
                  go_wp2
                  refine wp_region_up (by kernel_rfl) (by kernel_rfl) ?_
                  repeat (go_big_quiet_step ((go_at_call 51; exact IsName_up IN.out)))
                  refine wpQuiet_nil ?_
                  rintro w4 ⟨U, rfl⟩
                  have hE4 := Lib.hid (Ext.trans HE.out (u0 U))
                  have e2 := u2 U
                  have e3 := u3 U
                  generalize U.W = w4 at *
                  clear u1 u2 u3 u4 u0
                  have HZ := Lib.hid (hyes.out (Bn.ok_yes hnm hp1 (.inr ⟨rfl, hv1, hv2⟩)))
                  go_wp2
                  go_roundw
                  case rel => exact ⟨j + 1, by omega, by go_num, HZ.out, hE4.out⟩
                  case measure => simp [intOf]; omega
                · skip
                  go_wp2
                  refine wp_region_up (by kernel_rfl) (by kernel_rfl) ?_
                  repeat (go_big_quiet_step ((go_at_call 51; exact IsName_up IN.out)))
                  refine wpQuiet_nil ?_
                  rintro w4 ⟨U, rfl⟩
                  have hE4 := Lib.hid (Ext.trans HE.out (u0 U))
                  have e2 := u2 U
                  have e3 := u3 U
                  generalize U.W = w4 at *
                  clear u1 u2 u3 u4 u0
                  have HZ := Lib.hid (hno.out (Bn.ok_i rfl (fun h => absurd h.1 (by show ¬ (-1099511627776 ≤ v); omega))))
                  go_wp2
                  all_goals (go_ret; exact ⟨by rw [HF.out HZ.out]; rfl, hE4.out⟩)
                · skip
                  have q9 : decide (v < -1099511627776) = false := by simp; omega
                  go_wp2
                  refine wp_region_up (by kernel_rfl) (by kernel_rfl) ?_
                  repeat (go_big_quiet_step ((go_at_call 51; exact IsName_up IN.out)))
                  refine wpQuiet_nil ?_
                  rintro w4 ⟨U, rfl⟩
                  have hE4 := Lib.hid (Ext.trans HE.out (u0 U))
                  have e2 := u2 U
                  have e3 := u3 U
                  generalize U.W = w4 at *
                  clear u1 u2 u3 u4 u0
                  have HZ := Lib.hid (hno.out (Bn.ok_i rfl (fun h => absurd h.2 (by show ¬ (v ≤ 1099511627776); omega))))
                  go_wp2
                  all_goals (go_ret; exact ⟨by rw [HF.out HZ.out]; rfl, hE4.out⟩)
              · skip
                have q1 : (ty == 2) = false := by simpa using h2
                have q2 : (ty != 2) = true := by simpa using h2
                have q3 : (ty == 1) = false := by simpa using h1
                have q4 : (ty != 1) = true := by simpa using h1
                go_wp2
                refine wp_region_up (by kernel_rfl) (by kernel_rfl) ?_
                repeat (go_big_quiet_step ((go_at_call 51; exact IsName_up IN.out)))
                refine wpQuiet_nil ?_
                rintro w4 ⟨U, rfl⟩
                have hE4 := Lib.hid (Ext.trans HE.out (u0 U))
                have e2 := u2 U
                have e3 := u3 U
                generalize U.W = w4 at *
                clear u1 u2 u3 u4 u0
                have HZ := Lib.hid (hno.out (Bn.ok_ty h1 h2))
                go_wp2
                all_goals (go_ret; exact ⟨by rw [HF.out HZ.out]; rfl, hE4.out⟩)
    · have hk2 : bs.take j = bs := List.take_of_length_le (by omega)
      have HZ := Lib.hid (show r = true by rw [HB.out]; have := HK.out; rw [hk2] at this; rw [this]; simp; omega)
      clear hk2
      go_wp2
      go_ret
      exact ⟨by rw [HT.out HZ.out]; rfl, hE⟩

end Go.Proofs.YtgkalcboklhdgaaGreatDoor

namespace Go.Proofs.YtgkalcboklhdgaaGreatDoor
open Go.RowKit
set_option linter.unusedVariables false
set_option linter.unusedSimpArgs false

def isN (n : List UInt8) (b : Bn) : Bool := b.name == n
def bZero : Bn := ⟨[], 0, 0⟩
/-- the binding of a name; the zero binding if there is none -/
def fdB (bs : List Bn) (n : List UInt8) : Bn := (bs.find? (isN n)).getD bZero
def fdIs (bs : List Bn) (n : List UInt8) : Bool := (bs.find? (isN n)).isSome
/-- none of the first j has the name -/
def noneTo (bs : List Bn) (n : List UInt8) (j : Nat) : Bool := (bs.take j).all (fun b => !isN n b)
theorem noneTo_succ (bs : List Bn) (n : List UInt8) (j : Nat) (h : j < bs.length) : noneTo bs n (j + 1) = (noneTo bs n j && !isN n bs[j]) := by
  unfold noneTo
  rw [List.take_succ_eq_append_getElem h, List.all_append]; simp
theorem fd_at (bs : List Bn) (n : List UInt8) (j : Nat) (h : j < bs.length) (h0 : noneTo bs n j = true) (h1 : isN n bs[j] = true) : bs.find? (isN n) = some bs[j] := by
  unfold noneTo at h0
  induction bs generalizing j with
  | nil => simp at h
  | cons b bs ih =>
    cases j with
    | zero => simp at h1; simp [h1]
    | succ j =>
      simp only [List.take_succ_cons, List.all_cons, Bool.and_eq_true, Bool.not_eq_true'] at h0
      rw [List.find?_cons, h0.1]
      simpa using ih j (by simpa using h) h0.2 (by simpa using h1)
theorem fd_none (bs : List Bn) (n : List UInt8) (h0 : noneTo bs n bs.length = true) : bs.find? (isN n) = none := by
  unfold noneTo at h0
  rw [List.take_length] at h0
  rw [List.find?_eq_none]
  intro b hb
  have := List.all_eq_true.1 h0 b hb
  simpa using this
theorem Bn.box {w wr : World} {x0 x1 x2 : Value} {t : TypeId} (h : Ext (w.alloc (.cells #[x0, x1, x2] t)) wr) :
    wr.cell? ⟨w.heap.size, 0, none⟩ = some x0 ∧ wr.cell? ⟨w.heap.size, 1, none⟩ = some x1 ∧ wr.cell? ⟨w.heap.size, 2, none⟩ = some x2 ∧ Ext w wr := by
  have hb : wr.heap[w.heap.size]? = some (.cells #[x0, x1, x2] t (0, 0)) := (h.below.block _ (by simp)).trans (alloc_here _ _)
  exact ⟨cell_of hb rfl, cell_of hb rfl, cell_of hb rfl, Ext.trans ((Below.refl w.heap.size w).alloc (Nat.le_refl _) _) h⟩

theorem find1_any (m n : List UInt8) (ty v : Int) (g : Nat) (w : World) (hg : w.cell? ⟨g, 0, none⟩ = some (sV n)) : Gives Tryz.prog 111 #[.agg #[sV m, .int .i64 ty, .int .i64 v], .pointer (some ⟨g, 0, none⟩)] w (.bool (m == n)) := by
  unfold Gives
  have hlt := Ex.cell_lt' hg
  have hg2 : (w.alloc (.cells #[sV m, .int .i64 ty, .int .i64 v] 39)).cell? ⟨g, 0, none⟩ = some (sV n) := (((Below.refl w.heap.size w).alloc (Nat.le_refl _) _).cell (p := ⟨g, 0, none⟩) hlt).trans hg
  go_enter Tryz.func111, Tryz.ntmps111
  go_wp2
  go_ret
  exact ⟨rfl, (Below.refl _ w).alloc (Nat.le_refl _) _⟩

set_option maxHeartbeats 1000000 in
theorem IndexFunc_any (bs : List Bn) (p : Option Addr) (c g : Nat) (n : List UInt8) (w : World) (hA : BAt w p bs) (hg : w.cell? ⟨g, 0, none⟩ = some (sV n)) :
    Calls Tryz.prog 42 #[.slice p bs.length c, .func (.func 111) #[] #[.pointer (some ⟨g, 0, none⟩)]] w fun e w' =>
      Ext w w' ∧ ((fdIs bs n = false ∧ e = .returned (.int .i64 (-1))) ∨ ∃ j, ∃ h : j < bs.length, fdIs bs n = true ∧ fdB bs n = bs[j] ∧ e = .returned (.int .i64 (j : Int))) := by
  have en := enters_fn Tryz.func111 (by kernel_rfl) rfl
  have hl := hA.1.1
  have HA := Lib.hid hA
  have HG := Lib.hid hg
  have HS := Lib.hid (noneTo_succ bs n)
  have HF := Lib.hid (fd_at bs n)
  have HN := Lib.hid (fd_none bs n)
  clear hA hg
  go_enter Tryz.func42, Tryz.ntmps42
  go_wp2
  go_loopw [8] (fun i wr => ∃ j : Nat, j ≤ bs.length ∧ i = .int .i64 (j : Int) ∧ noneTo bs n j = true ∧ Ext w wr) (fun i _ => bs.length - (intOf i).toNat)
  case atStart => exact ⟨0, Nat.zero_le _, rfl, rfl, Below.refl _ _⟩
  case round =>
    obtain ⟨j, hj, rfl, hk, hE⟩ := hrel
    have HK := Lib.hid hk
    have HE := Lib.hid hE
    by_cases hlt : j < bs.length
    · obtain ⟨b, off, rfl, hcs⟩ := (HA.out.below hE).2 j hlt
      have hg : wr.cell? ⟨g, 0, none⟩ = some (sV n) := (hE.below.cell (p := ⟨g, 0, none⟩) (Ex.cell_lt' HG.out)).trans HG.out
      obtain ⟨c0, c1, c2⟩ := hcs
      have FC := Lib.hid (find1_any (bs[j]).name n (bs[j]).type (bs[j]).value g wr hg)
      have hs := Lib.hid (HS.out j hlt)
      have hf := Lib.hid (HF.out j hlt HK.out)
      cases hb : (bs[j]).name == n with
      | true =>
        rw [hb] at FC
        have HR := Lib.hid (hf.out hb)
        generalize (bs[j]).name = m at *
        generalize (bs[j]).type = ty at *
        generalize (bs[j]).value = v at *
        clear hk hE hb hf hs hg
        go_wp2_with fail
        refine FC.out.mono ?_
        intro w1 hB1
        go_wp2
        go_ret
        exact ⟨Ext.trans HE.out hB1, .inr ⟨j, hlt, by unfold fdIs; rw [HR.out]; rfl, by unfold fdB; rw [HR.out]; rfl, rfl⟩⟩
      | false =>
        rw [hb] at FC
        have HR := Lib.hid (show noneTo bs n (j + 1) = true by rw [hs.out, HK.out]; simp [isN, hb])
        generalize (bs[j]).name = m at *
        generalize (bs[j]).type = ty at *
        generalize (bs[j]).value = v at *
        clear hk hE hb hf hs hg
        go_wp2_with fail
        refine FC.out.mono ?_
        intro w1 hB1
        go_wp2
        go_roundw
        case rel => exact ⟨j + 1, by omega, by go_num, HR.out, Ext.trans HE.out hB1⟩
        case measure => simp [intOf]; omega
    · obtain rfl : j = bs.length := by omega
      have HR := Lib.hid (HN.out HK.out)
      clear hk hE
      go_wp2
      go_ret
      exact ⟨HE.out, .inl ⟨by unfold fdIs; rw [HR.out]; rfl, rfl⟩⟩

theorem set3 {w : World} {B : Nat} {a b c : Value} {t : TypeId} {f : Nat × Nat} (h : w.heap[B]? = some (.cells #[a, b, c] t f)) (x0 x1 x2 : Value) :
    (((w.setCell ⟨B, 0, none⟩ x0).setCell ⟨B, 1, none⟩ x1).setCell ⟨B, 2, none⟩ x2).heap[B]? = some (.cells #[x0, x1, x2] t f) ∧ ∀ n₀, n₀ ≤ B → Below n₀ w (((w.setCell ⟨B, 0, none⟩ x0).setCell ⟨B, 1, none⟩ x1).setCell ⟨B, 2, none⟩ x2) := by
  refine ⟨?_, fun n₀ hn => (((Below.refl n₀ w).setCell (p := ⟨B, 0, none⟩) hn _).setCell (p := ⟨B, 1, none⟩) hn _).setCell (p := ⟨B, 2, none⟩) hn _⟩
  have h0 : Turn B (.cells #[a, b, c] t f) w w := Turn.refl h
  exact (((h0.setCell (i := 0) x0).setCell (i := 1) x1).setCell (i := 2) x2).here
/-- what find returns -/
def fdV (bs : List Bn) (n : List UInt8) : Value := .tuple #[(fdB bs n).val, .bool (fdIs bs n)]
theorem fdB_no {bs : List Bn} {n : List UInt8} (h : fdIs bs n = false) : fdB bs n = bZero := by
  unfold fdIs at h
  unfold fdB
  cases hq : bs.find? (isN n) with
  | none => rfl
  | some x => rw [hq] at h; cases h
set_option maxHeartbeats 1000000 in
theorem find_any (bs : List Bn) (p : Option Addr) (c : Nat) (n : List UInt8) (w : World) (hA : BAt w p bs) : Gives Tryz.prog 69 #[.slice p bs.length c, sV n] w (fdV bs n) := by
  unfold Gives
  have hE1 : Ext w ((w.alloc (.cells #[sV n] 9)).alloc (.cells #[sV [], .int .i64 0, .int .i64 0] 39)) := ((Below.refl _ w).alloc (Nat.le_refl _) _).alloc (by simp) _
  have hg : ((w.alloc (.cells #[sV n] 9)).alloc (.cells #[sV [], .int .i64 0, .int .i64 0] 39)).cell? ⟨w.heap.size, 0, none⟩ = some (sV n) := cell_of ((Below.heap_alloc _ _ _ (by simp)).trans (alloc_here _ _)) rfl
  have hb2 : ((w.alloc (.cells #[sV n] 9)).alloc (.cells #[sV [], .int .i64 0, .int .i64 0] 39)).heap[w.heap.size + 1]? = some (.cells #[sV [], .int .i64 0, .int .i64 0] 39 (0, 0)) := by
    have h := alloc_here (w.alloc (.cells #[sV n] 9)) (.cells #[sV [], .int .i64 0, .int .i64 0] 39)
    rw [World.size_alloc] at h; exact h
  have IC := Lib.hid (IndexFunc_any bs p c w.heap.size n _ (hA.below hE1) hg)
  have HA := Lib.hid hA
  have hl := hA.1.1
  have HE1 := Lib.hid hE1
  have HB2 := Lib.hid hb2
  clear hA hg hE1 hb2
  go_enter Tryz.func69, Tryz.ntmps69
  go_wp2_with fail
  refine IC.out.mono ?_
  rintro e w1 ⟨hB1, ⟨hno, rfl⟩ | ⟨j, hlt, hyes, hfd, rfl⟩⟩
  · have hbb : w1.heap[w.heap.size + 1]? = some (.cells #[sV [], .int .i64 0, .int .i64 0] 39 (0, 0)) := (hB1.below.block _ (lt_of_block HB2.out)).trans HB2.out
    have HW := Lib.hid (Ext.trans HE1.out hB1)
    have HV := Lib.hid (show fdV bs n = .tuple #[.agg #[sV [], .int .i64 0, .int .i64 0], .bool false] by unfold fdV; rw [fdB_no hno, hno]; rfl)
    have f0 : ∀ i, w1.frozen? ⟨w.heap.size + 1, i, none⟩ = false := fun i => free_of hbb
    have d0 : w1.cell? ⟨w.heap.size + 1, 0, none⟩ = some (sV []) := cell_of hbb rfl
    have d1 : w1.cell? ⟨w.heap.size + 1, 1, none⟩ = some (.int .i64 0) := cell_of hbb rfl
    have d2 : w1.cell? ⟨w.heap.size + 1, 2, none⟩ = some (.int .i64 0) := cell_of hbb rfl
    have HBB := Lib.hid hbb
    clear hno IC HB2 hbb hB1
    go_wp2
    obtain ⟨h3, h4⟩ := set3 HBB.out (.string { data := #[] }) (.int .i64 0) (.int .i64 0)
    generalize (((w1.setCell ⟨w.heap.size + 1, 0, none⟩ (.string { data := #[] })).setCell ⟨w.heap.size + 1, 1, none⟩ (.int .i64 0)).setCell ⟨w.heap.size + 1, 2, none⟩ (.int .i64 0)) = W at *
    have e0 : W.cell? ⟨w.heap.size + 1, 0, none⟩ = some (.string { data := #[] }) := cell_of h3 rfl
    have e1 : W.cell? ⟨w.heap.size + 1, 1, none⟩ = some (.int .i64 0) := cell_of h3 rfl
    have e2 : W.cell? ⟨w.heap.size + 1, 2, none⟩ = some (.int .i64 0) := cell_of h3 rfl
    refine bodyPost_ret (v := .tuple #[.agg #[sV [], .int .i64 0, .int .i64 0], .bool false]) (by simp [results, Tryz.f69, go_sem, e0, e1, e2, sB_nil]) rfl ⟨by rw [HV.out], Below.trans HW.out (h4 _ (by omega))⟩
  · have hbb : w1.heap[w.heap.size + 1]? = some (.cells #[sV [], .int .i64 0, .int .i64 0] 39 (0, 0)) := (hB1.below.block _ (lt_of_block HB2.out)).trans HB2.out
    have HW := Lib.hid (Ext.trans HE1.out hB1)
    have HV := Lib.hid (show fdV bs n = .tuple #[.agg #[sV (bs[j]).name, .int .i64 (bs[j]).type, .int .i64 (bs[j]).value], .bool true] by unfold fdV; rw [hfd, hyes]; rfl)
    obtain ⟨b, off, rfl, hcs⟩ := (HA.out.below HW.out).2 j hlt
    obtain ⟨c0, c1, c2⟩ := hcs
    generalize (bs[j]).name = m at *
    generalize (bs[j]).type = ty at *
    generalize (bs[j]).value = v at *
    have f0 : ∀ i, w1.frozen? ⟨w.heap.size + 1, i, none⟩ = false := fun i => free_of hbb
    have d0 : w1.cell? ⟨w.heap.size + 1, 0, none⟩ = some (sV []) := cell_of hbb rfl
    have d1 : w1.cell? ⟨w.heap.size + 1, 1, none⟩ = some (.int .i64 0) := cell_of hbb rfl
    have d2 : w1.cell? ⟨w.heap.size + 1, 2, none⟩ = some (.int .i64 0) := cell_of hbb rfl
    have HBB := Lib.hid hbb
    clear hyes hfd IC HB2 hbb hB1
    go_wp2
    obtain ⟨h3, h4⟩ := set3 HBB.out (sV m) (.int .i64 ty) (.int .i64 v)
    generalize (((w1.setCell ⟨w.heap.size + 1, 0, none⟩ (sV m)).setCell ⟨w.heap.size + 1, 1, none⟩ (.int .i64 ty)).setCell ⟨w.heap.size + 1, 2, none⟩ (.int .i64 v)) = W at *
    have e0 : W.cell? ⟨w.heap.size + 1, 0, none⟩ = some (sV m) := cell_of h3 rfl
    have e1 : W.cell? ⟨w.heap.size + 1, 1, none⟩ = some (.int .i64 ty) := cell_of h3 rfl
    have e2 : W.cell? ⟨w.heap.size + 1, 2, none⟩ = some (.int .i64 v) := cell_of h3 rfl
    refine bodyPost_ret (v := .tuple #[.agg #[sV m, .int .i64 ty, .int .i64 v], .bool true]) (by simp [results, Tryz.f69, go_sem, e0, e1, e2, sB_nil]) rfl ⟨by rw [HV.out], Below.trans HW.out (h4 _ (by omega))⟩

end Go.Proofs.YtgkalcboklhdgaaGreatDoor

namespace Go.Proofs.YtgkalcboklhdgaaGreatDoor
open Go.RowKit
set_option linter.unusedVariables false
set_option linter.unusedSimpArgs false

end Go.Proofs.YtgkalcboklhdgaaGreatDoor

namespace Go.Proofs.YtgkalcboklhdgaaGreatDoor
open Go.RowKit
set_option linter.unusedVariables false
set_option linter.unusedSimpArgs false

theorem op5_any (x y : Int) : Does 92 #[.int .i64 x, .int .i64 y] (.bool (decide (x = y))) := by
  intro w
  go_enter Tryz.func92, Tryz.ntmps92
  go_wp2
  go_ret
  exact ⟨ret_bool (by first | rfl | (rw [Bool.eq_iff_iff]; simp)), rfl⟩
theorem op6_any (x y : Int) : Does 93 #[.int .i64 x, .int .i64 y] (.bool (decide (x ≠ y))) := by
  intro w
  go_enter Tryz.func93, Tryz.ntmps93
  go_wp2
  go_ret
  exact ⟨ret_bool (by first | rfl | (rw [Bool.eq_iff_iff]; simp)), rfl⟩
theorem op7_any (x y : Int) : Does 94 #[.int .i64 x, .int .i64 y] (.bool (decide (x < y))) := by
  intro w
  go_enter Tryz.func94, Tryz.ntmps94
  go_wp2
  go_ret
  exact ⟨ret_bool (by first | rfl | (rw [Bool.eq_iff_iff]; simp)), rfl⟩
theorem op8_any (x y : Int) : Does 95 #[.int .i64 x, .int .i64 y] (.bool (decide (x ≤ y))) := by
  intro w
  go_enter Tryz.func95, Tryz.ntmps95
  go_wp2
  go_ret
  exact ⟨ret_bool (by first | rfl | (rw [Bool.eq_iff_iff]; simp)), rfl⟩
theorem op9_any (x y : Int) : Does 96 #[.int .i64 x, .int .i64 y] (.bool (decide (y < x))) := by
  intro w
  go_enter Tryz.func96, Tryz.ntmps96
  go_wp2
  go_ret
  exact ⟨ret_bool (by first | rfl | (rw [Bool.eq_iff_iff]; simp)), rfl⟩
theorem op10_any (x y : Int) : Does 97 #[.int .i64 x, .int .i64 y] (.bool (decide (y ≤ x))) := by
  intro w
  go_enter Tryz.func97, Tryz.ntmps97
  go_wp2
  go_ret
  exact ⟨ret_bool (by first | rfl | (rw [Bool.eq_iff_iff]; simp)), rfl⟩
theorem op11_any (x y : Int) : Does 98 #[.int .i64 x, .int .i64 y] (.bool (decide (x ≠ 0 ∧ y ≠ 0))) := by
  intro w
  by_cases h : x = 0 <;> by_cases g : y = 0
  · subst h; subst g
    go_enter Tryz.func98, Tryz.ntmps98
    go_wp2
    go_ret
    exact ⟨rfl, rfl⟩
  · subst h
    have hz := Lib.hid (show (decide ((0 : Int) ≠ 0 ∧ y ≠ 0)) = false by simp [g])
    rw [hz.out]
    have g1 : (y == 0) = false := by simpa using g
    have g2 : (y != 0) = true := by simpa using g
    clear g
    go_enter Tryz.func98, Tryz.ntmps98
    go_wp2
    go_ret
    exact ⟨rfl, rfl⟩
  · subst g
    have hz := Lib.hid (show (decide (x ≠ 0 ∧ (0 : Int) ≠ 0)) = false by simp [h])
    rw [hz.out]
    have g1 : (x == 0) = false := by simpa using h
    have g2 : (x != 0) = true := by simpa using h
    clear h
    go_enter Tryz.func98, Tryz.ntmps98
    go_wp2
    go_ret
    exact ⟨rfl, rfl⟩
  · have hz := Lib.hid (show (decide (x ≠ 0 ∧ y ≠ 0)) = true by simp [h, g])
    rw [hz.out]
    have g1 : (x == 0) = false := by simpa using h
    have g2 : (x != 0) = true := by simpa using h
    have g3 : (y == 0) = false := by simpa using g
    have g4 : (y != 0) = true := by simpa using g
    clear h g
    go_enter Tryz.func98, Tryz.ntmps98
    go_wp2
    go_ret
    exact ⟨rfl, rfl⟩
theorem op12_any (x y : Int) : Does 99 #[.int .i64 x, .int .i64 y] (.bool (decide (x ≠ 0 ∨ y ≠ 0))) := by
  intro w
  by_cases h : x = 0 <;> by_cases g : y = 0
  · subst h; subst g
    go_enter Tryz.func99, Tryz.ntmps99
    go_wp2
    go_ret
    exact ⟨rfl, rfl⟩
  · subst h
    have hz := Lib.hid (show (decide ((0 : Int) ≠ 0 ∨ y ≠ 0)) = true by simp [g])
    rw [hz.out]
    have g1 : (y == 0) = false := by simpa using g
    have g2 : (y != 0) = true := by simpa using g
    clear g
    go_enter Tryz.func99, Tryz.ntmps99
    go_wp2
    go_ret
    exact ⟨rfl, rfl⟩
  · subst g
    have hz := Lib.hid (show (decide (x ≠ 0 ∨ (0 : Int) ≠ 0)) = true by simp [h])
    rw [hz.out]
    have g1 : (x == 0) = false := by simpa using h
    have g2 : (x != 0) = true := by simpa using h
    clear h
    go_enter Tryz.func99, Tryz.ntmps99
    go_wp2
    go_ret
    exact ⟨rfl, rfl⟩
  · have hz := Lib.hid (show (decide (x ≠ 0 ∨ y ≠ 0)) = true by simp [h, g])
    rw [hz.out]
    have g1 : (x == 0) = false := by simpa using h
    have g2 : (x != 0) = true := by simpa using h
    have g3 : (y == 0) = false := by simpa using g
    have g4 : (y != 0) = true := by simpa using g
    clear h g
    go_enter Tryz.func99, Tryz.ntmps99
    go_wp2
    go_ret
    exact ⟨rfl, rfl⟩

theorem abs_any (x : Int) (hx : inM x) : Does 75 #[.int .i64 x] (.int .i64 (x.natAbs : Int)) := by
  intro w
  unfold inM at hx
  obtain ⟨h1, h2⟩ := hx
  by_cases h : 0 ≤ x
  · have hz := Lib.hid (show ((x.natAbs : Nat) : Int) = x by omega)
    rw [hz.out]
    go_enter Tryz.func75, Tryz.ntmps75
    go_wp2
    go_ret
    exact ⟨by first | rfl | exact ret_int (by omega), rfl⟩
  · have hz := Lib.hid (show ((x.natAbs : Nat) : Int) = -x by omega)
    rw [hz.out]
    go_enter Tryz.func75, Tryz.ntmps75
    go_wp2
    go_ret
    exact ⟨by first | rfl | exact ret_int (by omega), rfl⟩

/-- the product is too great -/
def mulBig (x y : Int) : Bool := decide (y ≠ 0 ∧ 1099511627776 / (y.natAbs : Int) < (x.natAbs : Int))
theorem mul_bd (x y : Int) (hx : inM x) (hy : inM y) (h : mulBig x y = false) : inM (x * y) := by
  have h' : ¬ (y ≠ 0 ∧ 1099511627776 / (y.natAbs : Int) < (x.natAbs : Int)) := by simpa [mulBig] using h
  have hb : (x * y).natAbs ≤ 1099511627776 := by
    rw [Int.natAbs_mul]
    by_cases h0 : y = 0
    · subst h0; simp
    · have h2 : (x.natAbs : Int) ≤ 1099511627776 / (y.natAbs : Int) := by
        rcases Int.lt_or_le (1099511627776 / (y.natAbs : Int)) (x.natAbs : Int) with h3 | h3
        · exact absurd ⟨h0, h3⟩ h'
        · exact h3
      have h3 : (x.natAbs : Int) * (y.natAbs : Int) ≤ 1099511627776 := by
        rw [Int.le_ediv_iff_mul_le (by omega)] at h2
        exact h2
      have h4 : ((x.natAbs * y.natAbs : Nat) : Int) ≤ 1099511627776 := by rw [Int.natCast_mul]; exact h3
      generalize x.natAbs * y.natAbs = z at *
      omega
  unfold inM
  omega
theorem mul_big (x y : Int) (h : mulBig x y = true) : ¬ inM (x * y) := by
  have h' : y ≠ 0 ∧ 1099511627776 / (y.natAbs : Int) < (x.natAbs : Int) := by simpa [mulBig] using h
  obtain ⟨h0, h1⟩ := h'
  have h3 : ¬ (x.natAbs : Int) * (y.natAbs : Int) ≤ 1099511627776 := by
    intro h4
    rw [← Int.le_ediv_iff_mul_le (by omega)] at h4
    omega
  have h5 : ((x * y).natAbs : Int) = (x.natAbs : Int) * (y.natAbs : Int) := by rw [Int.natAbs_mul, Int.natCast_mul]
  unfold inM
  omega
theorem times_any (x y : Int) (hx : inM x) (hy : inM y) : Does 87 #[.int .i64 x, .int .i64 y] (if mulBig x y then .tuple #[.int .i64 0, .int .i64 14] else .tuple #[.int .i64 (x * y), .int .i64 0]) := by
  intro w
  have A1 := abs_any x hx w
  have A2 := abs_any y hy w
  have hm := Lib.hid (mul_bd x y hx hy)
  by_cases h0 : y = 0
  · subst h0
    have hz := Lib.hid (show mulBig x 0 = false by simp [mulBig])
    rw [hz.out, Int.mul_zero]
    have h1 := hx.1
    have h2 := hx.2
    clear hx hy A1 A2
    go_enter Tryz.func87, Tryz.ntmps87
    go_wp2
    go_ret2
    exact ⟨rfl, rfl⟩
  · have g1 : (y == 0) = false := by simpa using h0
    have g2 : (y != 0) = true := by simpa using h0
    have k1 : (y.natAbs : Int) ≠ 0 := by omega
    have k2 : (1 : Int) ≤ (y.natAbs : Int) := by omega
    have k3 : (x.natAbs : Int) ≤ 1099511627776 := by have := hx.1; have := hx.2; omega
    have k4 : (y.natAbs : Int) ≤ 1099511627776 := by have := hy.1; have := hy.2; omega
    have k5 : (0 : Int) ≤ (x.natAbs : Int) := by omega
    have hd : mulBig x y = decide (1099511627776 / (y.natAbs : Int) < (x.natAbs : Int)) := by simp [mulBig, h0]
    clear hx hy h0
    generalize (y.natAbs : Int) = ay at *
    generalize (x.natAbs : Int) = ax at *
    by_cases hb : 1099511627776 / ay < ax
    · have hz := Lib.hid (show mulBig x y = true by rw [hd]; simpa using hb)
      rw [hz.out]
      clear hd hm
      go_enter Tryz.func87, Tryz.ntmps87
      go_wp2_with fail
      refine A1.mono ?_
      rintro e w' ⟨rfl, rfl⟩
      go_wp2_with fail
      refine A2.mono ?_
      rintro e w' ⟨rfl, rfl⟩
      go_wp2
      go_ret2
      exact ⟨rfl, rfl⟩
    · have hz := Lib.hid (show mulBig x y = false by rw [hd]; simpa using hb)
      rw [hz.out]
      obtain ⟨m1, m2⟩ := hm.out hz.out
      clear hd hm
      go_enter Tryz.func87, Tryz.ntmps87
      go_wp2_with fail
      refine A1.mono ?_
      rintro e w' ⟨rfl, rfl⟩
      go_wp2_with fail
      refine A2.mono ?_
      rintro e w' ⟨rfl, rfl⟩
      go_wp2
      go_ret2
      exact ⟨rfl, rfl⟩

end Go.Proofs.YtgkalcboklhdgaaGreatDoor

