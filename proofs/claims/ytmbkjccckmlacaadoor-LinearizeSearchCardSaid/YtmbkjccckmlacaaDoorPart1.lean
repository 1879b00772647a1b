/- Lemmas and walks for the statements of this seat, part 1, merged from smaller texts: Frame relations between two worlds of the model, used by all the walks of this seat: 'Turn k o w w'' (block k now holds o, every other old block is as it was).; Regions that draw their order and whose calls leave old memory as it was; strings turned into slices of bytes.; Slices of integers (the part of XInts that knows no function).; Slices of integers; the checks of clocks.; Histories and models: plain.; The search of linearizations: plain.; linearize, plain: methods keep states what they are.; Paths of the search: plain.; Slices of integers of the call's own, to which it appends (the part of XApp that knows no function).; linearize: inRange, checkModel, initial; where a state lies.; history: within, call; where a history lies.; history.positions: plain; its closure take.; history.positions. -/
import Derived.Below
import Derived.OneCell
import Derived.WalkSmall
import Derived.WalkKit
import Derived.Lib.Hide
import Derived.WalkSpells
import Derived.Deep.QuietTactic
import Derived.BigQuiet
import Derived.Laws.IdiomStrings
import Derived.OwnWalk
import Derived.Test.YtmbkjccckmlacaaDoorRows
import Derived.Lib.AppendStr
import Derived.Deep.OwnRows
import Derived.Lib.SmallJoins
import Derived.Maps.AppendAt
import Derived.WalkMore
import Derived.Laws.OwnMore

namespace Go.Proofs.YtmbkjccckmlacaaDoor
open Go.RowKit

/-- Block k holds o in w'; every other block that was there is as it was. -/
structure Turn (k : Nat) (o : Obj) (w w' : World) : Prop where
  os : w'.os = w.os
  tape : w'.tape = w.tape
  output : w'.output = w.output
  size : w.heap.size ≤ w'.heap.size
  here : w'.heap[k]? = some o
  other : ∀ j, j < w.heap.size → j ≠ k → w'.heap[j]? = w.heap[j]?

theorem Turn.refl {k : Nat} {o : Obj} {w : World} (h : w.heap[k]? = some o) : Turn k o w w := ⟨rfl, rfl, rfl, Nat.le_refl _, h, fun _ _ _ => rfl⟩
theorem Turn.trans {k : Nat} {o o' : Obj} {a b c : World} (h : Turn k o a b) (g : Turn k o' b c) : Turn k o' a c :=
  ⟨g.os.trans h.os, g.tape.trans h.tape, g.output.trans h.output, Nat.le_trans h.size g.size, g.here, fun j hj hk => (g.other j (Nat.lt_of_lt_of_le hj h.size) hk).trans (h.other j hj hk)⟩
theorem Turn.lt {k : Nat} {o : Obj} {w w' : World} (h : Turn k o w w') : k < w'.heap.size := lt_of_block h.here
theorem Turn.below {k B : Nat} {o : Obj} {w w' : World} (h : Turn k o w w') (hk : B ≤ k) (hB : B ≤ w.heap.size) : Below B w w' :=
  ⟨h.os, h.tape, h.output, h.size, fun j hj => h.other j (by omega) (by omega)⟩
theorem Turn.drew {k : Nat} {o : Obj} {a w : World} (h : Turn k o a w) : Turn k o a w.drew := ⟨h.os, h.tape, h.output, h.size, h.here, h.other⟩
theorem Turn.drewN {k : Nat} {o : Obj} {a w : World} (h : Turn k o a w) (n : Nat) : Turn k o a (w.drewN n) := ⟨h.os, h.tape, h.output, h.size, h.here, h.other⟩
theorem Turn.alloc {k : Nat} {o : Obj} {a w : World} (h : Turn k o a w) (x : Obj) : Turn k o a (w.alloc x) :=
  ⟨h.os, h.tape, h.output, by have := h.size; simp; omega, (Below.heap_alloc _ _ _ h.lt).trans h.here, fun j hj hk => (Below.heap_alloc _ _ _ (Nat.lt_of_lt_of_le hj h.size)).trans (h.other j hj hk)⟩
theorem Turn.of_below {k : Nat} {o : Obj} {a w w' : World} (h : Turn k o a w) (hb : Below w.heap.size w w') : Turn k o a w' :=
  ⟨hb.os.trans h.os, hb.tape.trans h.tape, hb.output.trans h.output, Nat.le_trans h.size hb.size, (hb.block k h.lt).trans h.here, fun j hj hk => (hb.block j (Nat.lt_of_lt_of_le hj h.size)).trans (h.other j hj hk)⟩
/-- a store into block k -/
theorem Turn.setCell {k i : Nat} {c : Array Value} {t : TypeId} {f : Nat × Nat} {a w : World} (h : Turn k (.cells c t f) a w) (u : Value) : Turn k (.cells (c.setIfInBounds i u) t f) a (w.setCell ⟨k, i, none⟩ u) := by
  refine ⟨h.os, h.tape, h.output, by have := h.size; simp [World.setCell]; omega, ?_, fun j hj hk => ?_⟩
  · simp only [World.setCell, Array.getElem?_modify, if_true, h.here]
    rfl
  · exact (Below.heap_setCell _ _ _ _ hk).trans (h.other j hj hk)

theorem cell_of {w : World} {k i : Nat} {c : Array Value} {t : TypeId} {f : Nat × Nat} {v : Value} (h : w.heap[k]? = some (.cells c t f)) (hv : c[i]? = some v) : w.cell? ⟨k, i, none⟩ = some v := by
  simp [World.cell?, h, hv]
theorem free_of {w : World} {k i : Nat} {c : Array Value} {t : TypeId} (h : w.heap[k]? = some (.cells c t (0, 0))) : w.frozen? ⟨k, i, none⟩ = false := by
  simp [World.frozen?, h]
theorem alloc_here (w : World) (o : Obj) : (w.alloc o).heap[w.heap.size]? = some o := by show (w.heap.push o)[w.heap.size]? = _; simp

/-- a string by the list of its bytes -/
def sB (l : List UInt8) : ByteArray := ⟨l.toArray⟩
abbrev sV (l : List UInt8) : Value := .string (sB l)
theorem sB_of (s : ByteArray) : ∃ l, s = sB l := ⟨s.data.toList, rfl⟩
theorem sB_size (l : List UInt8) : (sB l).size = l.length := by simp [sB, ByteArray.size]
theorem sB_app (a b : List UInt8) : sB a ++ sB b = sB (a ++ b) := by
  apply ByteArray.ext
  apply Array.toList_inj.1
  simp [sB]
theorem sB_get (l : List UInt8) (i : Nat) (h : i < (sB l).size) : (sB l)[i] = l[i]'(by rw [sB_size] at h; exact h) := rfl
theorem sB_inj {a b : List UInt8} : sB a = sB b ↔ a = b := by
  constructor
  · intro h; have := congrArg (fun s : ByteArray => s.data.toList) h; simpa [sB] using this
  · rintro rfl; rfl
theorem sB_extract (l : List UInt8) (a b : Nat) : (sB l).extract a b = sB ((l.take b).drop a) := by
  apply ByteArray.ext
  apply Array.toList_inj.1
  simp [sB, List.extract, List.drop_take]
theorem sB_data (l : List UInt8) : (sB l).data.toList = l := by simp [sB]
theorem sB_toList (l : List UInt8) : (sB l).toList = l := by rw [ByteArray.toList_eq, sB_data]
theorem sB_nil : (ByteArray.mk #[]) = sB [] := rfl
attribute [go_sem] sB_size sB_app sB_get sB_data sB_toList

theorem bcell {W w1 : World} (hb : Below W.heap.size W w1) : (∀ b o, b < W.heap.size → w1.cell? ⟨b, o, none⟩ = W.cell? ⟨b, o, none⟩) ∧ (∀ b o, b < W.heap.size → w1.frozen? ⟨b, o, none⟩ = W.frozen? ⟨b, o, none⟩) :=
  ⟨fun b o h => hb.cell (p := ⟨b, o, none⟩) h, fun b o h => hb.frozen (p := ⟨b, o, none⟩) h⟩

/-- a call that leaves old memory as it was -/
def Gives (P : Program) (f : FuncId) (args : Array Value) (w : World) (v : Value) : Prop :=
  Calls P f args w fun e w' => e = .returned v ∧ Below w.heap.size w w'

theorem Gives.mono {P : Program} {f : FuncId} {args : Array Value} {w : World} {v : Value} (h : Gives P f args w v) {R : Ending → World → Prop}
    (hr : ∀ w', Below w.heap.size w w' → R (.returned v) w') : Calls P f args w R :=
  Calls.mono h (fun e w' h => by obtain ⟨rfl, hb⟩ := h; exact hr w' hb)

theorem tdiv_neg_eq (n : Int) (h : n < 0) (k : Int) : n.tdiv k = -((-n) / k) := by
  have h1 : n = -(-n) := by omega
  conv => lhs; rw [h1]
  rw [Int.neg_tdiv, Int.tdiv_eq_ediv_of_nonneg (by omega)]
theorem tmod_neg_eq (n : Int) (h : n < 0) (k : Int) : n.tmod k = -((-n) % k) := by
  have h1 : n = -(-n) := by omega
  conv => lhs; rw [h1]
  rw [Int.neg_tmod, Int.tmod_eq_emod_of_nonneg (by omega)]
theorem wrapi {x : Int} (h1 : -9223372036854775808 ≤ x) (h2 : x ≤ 9223372036854775807) : IntKind.i64.wrap x = x := IntWalk.i64_in _ ⟨h1, h2⟩
theorem i64_bd {n : Int} (h : (Lit.int .i64 n).wf = true) : -9223372036854775808 ≤ n ∧ n ≤ 9223372036854775807 := by
  simpa [Lit.wf, IntKind.min, IntKind.max, IntKind.signed, IntKind.bits] using h

end Go.Proofs.YtmbkjccckmlacaaDoor

namespace Go.Proofs.YtmbkjccckmlacaaDoor
open Go.RowKit
set_option linter.unusedVariables false

/-- W has all that w had -/
def Ext (w W : World) : Prop := Below w.heap.size w W
theorem Ext.below {w W : World} (h : Ext w W) : Below w.heap.size w W := h
theorem Ext.call {P : Program} {f : FuncId} {args : Array Value} {w0 W : World} {v : Value} (h : Gives P f args W v) (hW : Ext w0 W) : Calls P f args W fun e w'' => e = .returned v ∧ Ext w0 w'' :=
  h.mono fun w' hb => ⟨rfl, Below.trans hW (hb.mono hW.size)⟩

theorem Ext.undrew {w W : World} (h : Ext w.drew W) : Ext w W := ⟨h.os, h.tape, h.output, h.size, h.block⟩
theorem Ext.undrewN {w W : World} {n : Nat} (h : Ext (w.drewN n) W) : Ext w W := ⟨h.os, h.tape, h.output, h.size, h.block⟩
theorem Ext.drewN' {w W : World} {n : Nat} (h : Ext w W) : Ext w (W.drewN n) := ⟨h.os, h.tape, h.output, h.size, h.block⟩
theorem Ext.trans {a b c : World} (h : Ext a b) (g : Ext b c) : Ext a c := Below.trans h (g.below.mono h.size)

theorem wp_region_ext {P : Program} {id : Nat} {Q : Exit → Act → World → Prop} {a : Act} {w : World} {l : List Oper} (hm : P.follows .mixedOrders = true) (hB : Region.lexB .any l.toArray = true)
    (h : wpQuiet P l.toArray (Ext w) (fun a' => ∀ w', Ext w w' → Q .normal a' w') l a) : (Code.region id l.toArray true).wp P Q a w :=
  wp_region_quiet (C := Ext w) hm hB (⟨rfl, rfl, rfl, Nat.le_refl _, fun _ _ => rfl⟩) (by simpa using h)

/-- a world that has all that w had: the class of the worlds of a region -/
structure Up (w : World) where
  W : World
  ext : Ext w W
instance (w : World) : Nonempty (Up w) := ⟨⟨w, Below.refl _ _⟩⟩
theorem Up.call {P : Program} {f : FuncId} {args : Array Value} {w : World} {v : Value} {U : Up w} (h : Gives P f args U.W v) : Calls P f args U.W fun e w'' => e = .returned v ∧ ∃ U' : Up w, w'' = U'.W :=
  h.mono fun w' hb => ⟨rfl, ⟨w', Below.trans U.ext (hb.mono U.ext.size)⟩, rfl⟩
theorem Up.cell {w : World} {a : Addr} {v : Value} (h : w.cell? a = some v) (U : Up w) : U.W.cell? a = some v := by
  have hb : a.block < w.heap.size := by
    unfold World.cell? at h
    split at h
    · rename_i hx; exact lt_of_block hx
    · cases h
  exact (U.ext.below.cell hb).trans h
theorem wp_region_up {P : Program} {id : Nat} {Q : Exit → Act → World → Prop} {a : Act} {w : World} {l : List Oper} (hm : P.follows .mixedOrders = true) (hB : Region.lexB .any l.toArray = true)
    (h : wpQuiet P l.toArray (fun W => ∃ U : Up w, W = U.W) (fun a' => ∀ w', (∃ U : Up w, w' = U.W) → Q .normal a' w') l a) : (Code.region id l.toArray true).wp P Q a w :=
  wp_region_quiet (C := fun W => ∃ U : Up w, W = U.W) hm hB ⟨⟨{ w with drawn := w.drawn + 1 }, ⟨rfl, rfl, rfl, Nat.le_refl _, fun _ _ => rfl⟩⟩, rfl⟩ (by simpa using h)

/-- an operation that is no call, and yields the same value in each world of the class -/
theorem quiet_value {P : Program} {C : World → Prop} {K : Act → Prop} {o : Oper} {a : Act} (v : Value) (h : ∀ w, C w → (execOp a.eval o).run P w = .ok (.value v) w) (hk : K (a.put o.dst v)) : o.quiet P a C K :=
  ⟨v, fun w hw => by unfold Oper.quietAt; rw [h w hw]; exact ⟨rfl, rfl⟩, hk⟩

theorem quiet_convert {P : Program} {C : World → Prop} {K : Act → Prop} {o : Oper} {a : Act} {src dst : TypeId} {x : Operand} (hop : o.op = .convert src dst x) {v0 : Value} (hx : a.eval x = v0) (v : Value)
    (h : ∀ w, C w → (convert src dst v0).run P w = .ok v w) (hk : K (a.put o.dst v)) : o.quiet P a C K :=
  quiet_value v (fun w hw => by simp only [execOp, hop, hx, Sem.run_bind, h w hw, Result.andThen, Sem.run_pure]) hk

theorem free_mark {w : World} {k i lo hi : Nat} {c : Array Value} {t : TypeId} (h : w.heap[k]? = some (.cells c t (lo, hi))) (hl : i < lo) : w.frozen? ⟨k, i, none⟩ = false := by
  simp [World.frozen?, h]; omega
/-- the cells of block g begin with the bytes l, and may be written -/
def BytesAt (w : World) (g : Nat) (l : List UInt8) : Prop := ∀ i (h : i < l.length), w.cell? ⟨g, i, none⟩ = some (.int .u8 (l[i].toNat : Int)) ∧ w.frozen? ⟨g, i, none⟩ = false

theorem BytesAt.conv {P : Program} {w : World} {g : Nat} {l : List UInt8} (h : BytesAt w g l) {src dst e : TypeId} (hs : P.underlying src = some (.slice e)) (he : P.underlying e = some (.int .u8)) (hd : P.underlying dst = some .string) (n cap : Nat) (hn : n = l.length) :
    (convert src dst (.slice (some ⟨g, 0, none⟩) n cap)).run P w = .ok (sV l) w := by
  subst hn
  refine run_convert_bytes_back w src dst e ⟨g, 0, none⟩ cap l hs he hd (fun j hj => ?_)
  have := (h j hj).1
  unfold Addr.add
  split
  · rename_i h0; subst h0; exact this
  · simpa using this

theorem BytesAt.set {w : World} {g : Nat} {l : List UInt8} (h : BytesAt w g l) (i : Nat) (b : UInt8) (hi : i < l.length) : BytesAt (w.setCell ⟨g, i, none⟩ (.int .u8 (b.toNat : Int))) g (l.set i b) := by
  intro j hj
  have hj' : j < l.length := by simpa using hj
  obtain ⟨h1, h2⟩ := h j hj'
  refine ⟨?_, by rw [World.frozen?_setCell]; exact h2⟩
  by_cases e : i = j
  · subst e
    rw [List.getElem_set_self]
    exact World.cell?_setCell_same' _ _ _ (by rw [h1]; rfl)
  · rw [List.getElem_set_ne e]
    rw [World.cell?_setCell_other w ⟨g, i, none⟩ ⟨g, j, none⟩ _ (by intro h0; apply e; exact congrArg Addr.off h0)]
    exact h1

theorem BytesAt.ext {w W : World} {g : Nat} {l : List UInt8} (h : BytesAt w g l) (hg : g < w.heap.size) (hW : Ext w W) : BytesAt W g l := fun i hi =>
  ⟨(hW.below.cell (p := ⟨g, i, none⟩) hg).trans (h i hi).1, (hW.below.frozen (p := ⟨g, i, none⟩) hg).trans (h i hi).2⟩

/-- '[]byte(s)': a new block with the bytes -/
theorem wpList_strbytes {P : Program} {ops : Array Oper} {Q : Exit → Act → World → Prop} {rest : List Oper} {o : Oper} {a : Act} {w : World} (hg : o.guard = none) (src dst e : TypeId) (x : Operand) (hop : o.op = .convert src dst x)
    (l : List UInt8) (hx : a.eval x = sV l) (hs : P.underlying src = some .string) (hd : P.underlying dst = some (.slice e)) (he : P.underlying e = some (.int .u8))
    (hK : ∀ W g cap, Ext w W → w.heap.size ≤ g → g < W.heap.size → BytesAt W g l → wpList P ops Q rest (a.put o.dst (.slice (some ⟨g, 0, none⟩) l.length cap)) W) : wpList P ops Q (o :: rest) a w := by
  refine wpList_plain hg fun K hK' => ?_
  have hrun := run_bytes_of_string (P := P) w src dst e (sB l) hs hd he
  unfold Oper.wp
  simp only [execOp, hop, hx]
  simp only [Sem.run_bind, hrun, Result.andThen, Sem.run_pure, Oper.upon]
  refine hK' _ _ ?_
  rw [sB_size]
  refine hK _ _ _ ?_ (Nat.le_refl _) ?_ ?_
  · exact ((Below.refl _ w).drew).alloc (Nat.le_refl _) _
  · simp
  · intro i hi
    have hA := alloc_here w.drew (.cells (bytesRow (sB l) (grownCap w l.length 0 e)) e ((bytesRow (sB l) (grownCap w l.length 0 e)).size, (bytesRow (sB l) (grownCap w l.length 0 e)).size + 1))
    have hsz : i < (bytesRow (sB l) (grownCap w l.length 0 e)).size := by simp [bytesRow, sB]; omega
    refine ⟨cell_of hA ?_, ?_⟩
    · simp [bytesRow, sB, Array.getElem?_append, hi]
    · exact free_mark hA hsz

end Go.Proofs.YtmbkjccckmlacaaDoor

namespace Go.Proofs.YtmbkjccckmlacaaDoor
open Go.RowKit
set_option linter.unusedVariables false

/-- a slice of integers that came in -/
def IsRow (k : IntKind) (w : World) (a : Option Addr) (len cap : Nat) (zs : List Int) : Prop :=
  (a = none ∧ len = 0 ∧ cap = 0 ∧ zs = []) ∨
  ∃ x, a = some x ∧ len ≤ cap ∧ cap ≤ maxLen ∧ zs.length = cap ∧ (∀ i, i < zs.length → w.cell? (x.add i) = some (.int k (zs.getD i 0))) ∧ ∀ n ∈ zs, (Lit.int k n).wf = true

/-- the slice at a holds the integers l -/
def IntsAt (w : World) (a : Option Addr) (l : List Int) : Prop := ∀ i (h : i < l.length), ∃ b off, a = some ⟨b, off, none⟩ ∧ w.cell? ⟨b, off + i, none⟩ = some (.int .i64 l[i])
theorem cell_lt {w : World} {a : Addr} {v : Value} (h : w.cell? a = some v) : a.block < w.heap.size := by
  unfold World.cell? at h
  split at h
  · rename_i hx; exact lt_of_block hx
  · cases h
theorem IntsAt.below {w W : World} {a : Option Addr} {l : List Int} (h : IntsAt w a l) (hE : Below w.heap.size w W) : IntsAt W a l := fun i hi => by
  obtain ⟨b, off, e, hc⟩ := h i hi
  exact ⟨b, off, e, (hE.cell (p := ⟨b, off + i, none⟩) (cell_lt hc)).trans hc⟩
theorem IntsAt.at {w : World} {a : Option Addr} {l : List Int} (h : IntsAt w a l) {i : Nat} (hi : i < l.length) : ∃ b off, a = some ⟨b, off, none⟩ ∧ w.cell? ⟨b, off + i, none⟩ = some (.int .i64 l[i]) := h i hi
theorem IntsAt.nil {w : World} {a : Option Addr} : IntsAt w a [] := fun i hi => by simp at hi
theorem IsRow.ints {w : World} {a : Option Addr} {len cap : Nat} {zs : List Int} (h : IsRow .i64 w a len cap zs) :
    ∃ l : List Int, l.length = len ∧ len ≤ maxLen ∧ IntsAt w a l ∧ ∀ n ∈ l, -9223372036854775808 ≤ n ∧ n ≤ 9223372036854775807 := by
  rcases h with ⟨rfl, rfl, rfl, rfl⟩ | ⟨x, rfl, hl, hm, hz, hcell, hwz⟩
  · exact ⟨[], rfl, by simp, IntsAt.nil, by simp⟩
  · refine ⟨zs.take len, by simp; omega, by omega, fun i hi => ?_, fun n hn => i64_bd (hwz n (List.mem_of_mem_take hn))⟩
    have hi2 : i < zs.length := by simp at hi; omega
    have hc := hcell i hi2
    obtain ⟨b, off, spot⟩ := x
    have hspot : spot = none := by
      have := World.cell?_spot (hcell 0 (by omega))
      simpa [Addr.add] using this
    subst hspot
    refine ⟨b, off, rfl, ?_⟩
    have e : (⟨b, off, none⟩ : Addr).add i = ⟨b, off + i, none⟩ := by unfold Addr.add; split <;> simp_all
    rw [e] at hc
    rw [hc]
    simp [List.getD_eq_getElem?_getD, hi2]


end Go.Proofs.YtmbkjccckmlacaaDoor

namespace Go.Proofs.YtmbkjccckmlacaaDoor
open Go.RowKit
set_option linter.unusedVariables false

def bad (x : Int) : Bool := decide (x < 0) || decide (1099511627776 < x)
def chk (l : List Int) : Int := if 32 < l.length then 4 else if l.any bad = true then 2 else 0

end Go.Proofs.YtmbkjccckmlacaaDoor

namespace Go.Proofs.YtmbkjccckmlacaaDoor
open Go.RowKit
set_option linter.unusedVariables false
set_option linter.unusedSimpArgs false

/-- a call of a history -/
structure Cl where
  task : Int
  meth : Int
  arg : Int
  res : Int
  beg : Int
  en : Int
deriving DecidableEq

def inM (n : Int) : Bool := decide (-1099511627776 ≤ n ∧ n ≤ 1099511627776)
/-- is the state of the model a list -/
def lsM (k : Int) : Bool := decide (3 ≤ k ∧ k ≤ 5)
def mdE (k z : Int) : Int := if k < 1 ∨ 6 < k then 8 else if z < 0 ∨ (if lsM k then 100 else 0) < z then 2 else 0
def iniR (k : Int) : List Int := if lsM k then [] else [0]
/-- strictly ascending -/
def ascL : List Int → Bool
  | [] => true
  | [_] => true
  | x :: y :: t => decide (x < y) && ascL (y :: t)
def stR (k z : Int) (l : List Int) : Bool :=
  l.all inM && (if k = 1 ∨ k = 2 then decide (l.length = 1) else if k = 6 then decide (l = [0] ∨ l = [1]) else decide (l.length ≤ 100 ∧ (z ≤ 0 ∨ (l.length : Int) ≤ z)) && (decide (k ≠ 5) || ascL l))
def insM (z : Int) (l : List Int) (i : Nat) (x : Int) : List Int × Int × Int :=
  if 0 < z ∧ z ≤ l.length then (l, 0, 0) else if 100 ≤ l.length then ([], 0, 4) else (l.take i ++ x :: l.drop i, 1, 0)
def remM (l : List Int) (i : Nat) : List Int × Int × Int := if l = [] then (l, -1, 0) else (l.eraseIdx i, l[i]?.getD 0, 0)
/-- where a number stands, or would stand -/
def posM (l : List Int) (x : Int) : Nat := (l.takeWhile (fun y => decide (y < x))).length
def isM (l : List Int) (x : Int) : Bool := decide (l[posM l x]? = some x)
def knM (k m : Int) : Bool := decide (m = 1 ∨ m = 2 ∨ m = 3 ∧ k = 5)
/-- a method -/
def apM (k z : Int) (l : List Int) (m a : Int) : List Int × Int × Int :=
  if knM k m = false then ([], 0, 7) else if inM a = false then ([], 0, 2) else
  if k = 1 then (if m = 1 then (l, l[0]?.getD 0, 0) else ([a], 0, 0)) else
  if k = 2 then (if m = 1 then (l, l[0]?.getD 0, 0) else if inM (l[0]?.getD 0 + a) then ([l[0]?.getD 0 + a], l[0]?.getD 0, 0) else ([], 0, 14)) else
  if k = 3 then (if m = 1 then insM z l l.length a else remM l 0) else
  if k = 4 then (if m = 1 then insM z l l.length a else remM l (l.length - 1)) else
  if k = 5 then (if m = 1 then (if isM l a then (l, 0, 0) else insM z l (posM l a) a) else if m = 2 then (if isM l a then (l.eraseIdx (posM l a), 1, 0) else (l, 0, 0)) else (l, if isM l a then 1 else 0, 0)) else
  if m = 1 then (if l[0]?.getD 0 = 0 then ([1], 0, 0) else ([], 0, 17)) else (if l[0]?.getD 0 = 1 then ([0], 0, 0) else ([], 0, 17))

/-- why a call is not valid -/
def clE (l : List Cl) (i : Nat) (x : Cl) : Int :=
  if ¬ ((0 ≤ x.task ∧ x.task ≤ 15) ∧ (0 ≤ x.meth ∧ x.meth ≤ 99) ∧ inM x.arg = true ∧ inM x.res = true) then 2
  else if x.beg < 0 ∨ x.en < -1 ∨ x.en = -1 ∧ x.res ≠ 0 then 2
  else if 0 < i ∧ x.beg ≤ (l[i - 1]?.map (·.beg)).getD 0 ∨ x.en ≠ -1 ∧ x.en ≤ x.beg then 9 else 0
/-- the positions of a history -/
def psH (l : List Cl) : List Int := l.flatMap (fun x => if x.en = -1 then [x.beg] else [x.beg, x.en])
/-- the call of the same task that came last -/
def lastH (l : List Cl) (i : Nat) (t : Int) : Option Cl := ((l.take i).reverse.find? (fun x => decide (x.task = t)))
def seqE (l : List Cl) (i : Nat) (x : Cl) : Bool := match lastH l i x.task with
  | none => true
  | some y => decide (y.en ≠ -1 ∧ y.en < x.beg)
/-- the first error of a list -/
def fstE (f : Nat → Int) : Nat → Int
  | 0 => 0
  | n + 1 => if fstE f n ≠ 0 then fstE f n else f n
def callE (l : List Cl) (i : Nat) : Int := match l[i]? with
  | none => 0
  | some x => clE l i x
def tskE (l : List Cl) (i : Nat) : Int := match l[i]? with
  | none => 0
  | some x => if seqE l i x then 0 else 17
/-- why a list is no history -/
def ckH (l : List Cl) : Int :=
  if 100 < l.length then 4 else
  if fstE (callE l) l.length ≠ 0 then fstE (callE l) l.length else
  if ¬ ((∀ p ∈ psH l, p < (psH l).length) ∧ (psH l).Nodup) then 16 else fstE (tskE l) l.length
/-- does a call precede another one -/
def prc (x y : Cl) : Bool := decide (x.en ≠ -1 ∧ x.en < y.beg)

/-- the set of the numbers below n with a property -/
def msk (f : Nat → Bool) : Nat → Nat
  | 0 => 0
  | n + 1 => if f n then msk f n ||| 2 ^ n else msk f n
theorem msk_lt (f : Nat → Bool) : ∀ n, msk f n < 2 ^ n
  | 0 => by simp [msk]
  | n + 1 => by
    have := msk_lt f n
    have h2 : 2 ^ n < 2 ^ (n + 1) := Nat.pow_lt_pow_right (by omega) (by omega)
    unfold msk
    split
    · exact Nat.or_lt_two_pow (by omega) h2
    · omega
theorem msk_bit (f : Nat → Bool) : ∀ n j, (msk f n).testBit j = (decide (j < n) && f j)
  | 0, j => by simp [msk]
  | n + 1, j => by
    unfold msk
    have ih := msk_bit f n j
    by_cases hf : f n = true
    · rw [if_pos hf, Nat.testBit_or, ih, Nat.testBit_two_pow]
      by_cases hj : n = j
      · subst hj; simp [hf]
      · simp only [hj, decide_false, Bool.or_false]
        congr 1
        rw [decide_eq_decide]; omega
    · rw [if_neg hf, ih]
      by_cases hj : n = j
      · subst hj
        have : f n = false := by simpa using hf
        simp [this]
      · congr 1
        rw [decide_eq_decide]; omega

def befF (l : List Cl) (i j : Nat) : Bool := match l[j]?, l[i]? with
  | some x, some y => prc x y
  | _, _ => false
/-- the calls that precede a call -/
def bef (l : List Cl) (i : Nat) : Nat := msk (befF l i) l.length
def mustF (l : List Cl) (j : Nat) : Bool := match l[j]? with
  | some x => decide (x.en ≠ -1)
  | none => false
/-- the calls that are not pending -/
def must (l : List Cl) : Nat := msk (mustF l) l.length
/-- a partial linearization: its calls, and the state behind them -/
abbrev Nd := Nat × List Int
/-- is a set in another one, of the first n numbers -/
def subM (a b n : Nat) : Bool := (List.range n).all (fun j => !a.testBit j || b.testBit j)
def nxt (k z : Int) (l : List Cl) (n : Nd) (i : Nat) : Option Nd := match l[i]? with
  | none => none
  | some x => if n.1.testBit i = true ∨ subM (bef l i) n.1 l.length = false then none else
    if (apM k z n.2 x.meth x.arg).2.2 ≠ 0 ∨ (x.en ≠ -1 ∧ (apM k z n.2 x.meth x.arg).2.1 ≠ x.res) then none else some (n.1 ||| 2 ^ i, (apM k z n.2 x.meth x.arg).1)
/-- the calls that can follow, and the nodes behind them -/
def nxs (k z : Int) (l : List Cl) (n : Nd) : List (Nat × Nd) := (List.range l.length).filterMap (fun i => (nxt k z l n i).map (fun m => (i, m)))
def cmpl (l : List Cl) (n : Nd) : Bool := subM (must l) n.1 l.length
/-- the number of short linearizations behind a node, at most 10001 -/
def cntF (k z : Int) (l : List Cl) : Nat → Nd → Nat
  | 0, _ => 0
  | f + 1, n => if cmpl l n then 1 else (nxs k z l n).foldl (fun s p => min (s + cntF k z l f p.2) 10001) 0
def lonF (k z : Int) (l : List Cl) : Nat → Nd → Nat
  | 0, _ => 0
  | f + 1, n => (nxs k z l n).foldl (fun s p => max s (1 + lonF k z l f p.2)) 0
/-- how many calls are not in a set -/
def lft (l : List Cl) (n : Nd) : Nat := ((List.range l.length).filter (fun j => !n.1.testBit j)).length
def cnt (k z : Int) (l : List Cl) (n : Nd) : Nat := cntF k z l (lft l n + 1) n
def lon (k z : Int) (l : List Cl) (n : Nd) : Nat := lonF k z l (lft l n + 1) n
def serF (k z : Int) (l : List Cl) : Nat → Nd → List Nat
  | 0, _ => []
  | f + 1, n => if cmpl l n then [] else match (nxs k z l n).find? (fun p => decide (0 < cnt k z l p.2)) with
    | some p => p.1 :: serF k z l f p.2
    | none => []
def beg0 (k : Int) : Nd := (0, iniR k)
/-- what search finds -/
def serR (k z : Int) (l : List Cl) : List Nat × Bool := if cnt k z l (beg0 k) = 0 then ([], false) else (serF k z l (l.length + 1) (beg0 k), true)
def expF (k z : Int) (l : List Cl) : Nat → Nd → List Nat × Nd
  | 0, n => ([], n)
  | r + 1, n => match (nxs k z l n).find? (fun p => decide (lon k z l p.2 = r)) with
    | some p => (p.1 :: (expF k z l r p.2).1, (expF k z l r p.2).2)
    | none => expF k z l r n
/-- why a history is not searched -/
def srE (k z : Int) (l : List Cl) : Int := if mdE k z ≠ 0 then mdE k z else if ckH l ≠ 0 then 1 else if 12 < l.length then 4 else 0
def srhR (k z : Int) (l : List Cl) : List Nat × Bool × Int := if srE k z l ≠ 0 then ([], false, srE k z l) else ((serR k z l).1, (serR k z l).2, 0)
def cotR (k z : Int) (l : List Cl) (most : Int) : Int × Int := if srE k z l ≠ 0 then (0, srE k z l) else if most < 0 ∨ 10000 < most then (0, 2) else (min most (cnt k z l (beg0 k)), 0)
def ixR (l : List Cl) (n : Nd) : Int := match (List.range l.length).find? (fun i => (must l).testBit i && !n.1.testBit i) with
  | some i => (i : Int)
  | none => -1
def xplR (k z : Int) (l : List Cl) : List Nat × Int × Int :=
  if srE k z l ≠ 0 then ([], 0, srE k z l) else if (serR k z l).2 = true then ((serR k z l).1, -1, 0)
  else ((expF k z l (lon k z l (beg0 k)) (beg0 k)).1, ixR l (expF k z l (lon k z l (beg0 k)) (beg0 k)).2, 0)

end Go.Proofs.YtmbkjccckmlacaaDoor

namespace Go.Proofs.YtmbkjccckmlacaaDoor
open Go.RowKit
set_option linter.unusedVariables false
set_option linter.unusedSimpArgs false

theorem mem_nxs {k z : Int} {l : List Cl} {n : Nd} {p : Nat × Nd} : p ∈ nxs k z l n ↔ p.1 < l.length ∧ nxt k z l n p.1 = some p.2 := by
  unfold nxs
  simp only [List.mem_filterMap, List.mem_range, Option.map_eq_some_iff]
  constructor
  · rintro ⟨i, hi, m, hm, rfl⟩; exact ⟨hi, hm⟩
  · rintro ⟨h1, h2⟩; exact ⟨p.1, h1, p.2, h2, rfl⟩
theorem nxt_some {k z : Int} {l : List Cl} {n m : Nd} {i : Nat} (h : nxt k z l n i = some m) : ∃ x, l[i]? = some x ∧ n.1.testBit i = false ∧ subM (bef l i) n.1 l.length = true ∧ (apM k z n.2 x.meth x.arg).2.2 = 0 ∧ (x.en = -1 ∨ (apM k z n.2 x.meth x.arg).2.1 = x.res) ∧ m = (n.1 ||| 2 ^ i, (apM k z n.2 x.meth x.arg).1) := by
  unfold nxt at h
  split at h
  · simp at h
  · next x hx =>
    split at h
    · simp at h
    · next h1 =>
      split at h
      · simp at h
      · next h2 =>
        obtain rfl := (Option.some.inj h).symm
        simp only [not_or, not_and, Decidable.not_not, Bool.not_eq_true, Bool.not_eq_false] at h1 h2
        refine ⟨x, hx, h1.1, h1.2, h2.1, ?_, rfl⟩
        by_cases he : x.en = -1
        · exact Or.inl he
        · exact Or.inr (h2.2 he)
theorem nxt_mk {k z : Int} {l : List Cl} {n : Nd} {i : Nat} {x : Cl} (hx : l[i]? = some x) (h1 : n.1.testBit i = false) (h2 : subM (bef l i) n.1 l.length = true) (h3 : (apM k z n.2 x.meth x.arg).2.2 = 0) (h4 : x.en = -1 ∨ (apM k z n.2 x.meth x.arg).2.1 = x.res) : nxt k z l n i = some (n.1 ||| 2 ^ i, (apM k z n.2 x.meth x.arg).1) := by
  unfold nxt
  simp only [hx]
  rw [if_neg (by simp [h1, h2]), if_neg]
  rintro (h | ⟨h, h'⟩)
  · exact h h3
  · rcases h4 with h4 | h4
    · exact h h4
    · exact h' h4
theorem subM_iff {a b n : Nat} : subM a b n = true ↔ ∀ j, j < n → a.testBit j = true → b.testBit j = true := by
  unfold subM
  simp only [List.all_eq_true, List.mem_range, Bool.or_eq_true, Bool.not_eq_true']
  constructor
  · intro h j hj ha
    rcases h j hj with h | h
    · rw [ha] at h; cases h
    · exact h
  · intro h j hj
    cases ha : a.testBit j with
    | false => exact Or.inl rfl
    | true => exact Or.inr (h j hj ha)

theorem filt_one (f : Nat → Bool) (i : Nat) : ∀ n, (i < n → f i = true) → ((List.range n).filter f).length = ((List.range n).filter (fun j => f j && !decide (j = i))).length + (if i < n then 1 else 0)
  | 0, _ => by simp
  | n + 1, h => by
    have ih := filt_one f i n (fun hi => h (by omega))
    rw [List.range_succ, List.filter_append, List.filter_append, List.length_append, List.length_append, ih]
    by_cases hi : i = n
    · subst hi
      have hf : f i = true := h (by omega)
      have e1 : ([i].filter f).length = 1 := by simp [hf]
      have e2 : ([i].filter (fun j => f j && !decide (j = i))).length = 0 := by simp
      rw [e1, e2, if_neg (by omega), if_pos (by omega)]
    · have e : ([n].filter f).length = ([n].filter (fun j => f j && !decide (j = i))).length := by
        have : decide (n = i) = false := by simp; omega
        simp only [List.filter_cons, this, Bool.not_false, Bool.and_true, List.filter_nil]
      rw [e]
      by_cases hn : i < n
      · rw [if_pos hn, if_pos (by omega)]; omega
      · rw [if_neg hn, if_neg (by omega)]; omega
theorem lft_or {l : List Cl} {s : Nat} {t u : List Int} {i : Nat} (hi : i < l.length) (hb : s.testBit i = false) : lft l (s, t) = lft l (s ||| 2 ^ i, u) + 1 := by
  unfold lft
  rw [filt_one _ i _ (fun _ => by simp [hb]), if_pos hi]
  congr 3
  funext j
  by_cases hj : j = i
  · subst hj; simp [Nat.testBit_two_pow]
  · have : i ≠ j := fun h => hj h.symm
    simp [Nat.testBit_two_pow, hj, this]
theorem nxt_lft {k z : Int} {l : List Cl} {n m : Nd} {i : Nat} (h : nxt k z l n i = some m) : lft l n = lft l m + 1 := by
  obtain ⟨x, hx, hb, -, -, -, rfl⟩ := nxt_some h
  exact lft_or (List.getElem?_eq_some_iff.1 hx).1 hb
theorem lft_le (l : List Cl) (n : Nd) : lft l n ≤ l.length := by
  unfold lft
  exact Nat.le_trans (List.length_filter_le _ _) (by simp)

theorem foldl_cong {α β : Type} {f g : β → α → β} : ∀ {l : List α} {b : β}, (∀ x ∈ l, ∀ b, f b x = g b x) → l.foldl f b = l.foldl g b
  | [], _, _ => rfl
  | x :: t, b, h => by
    rw [List.foldl_cons, List.foldl_cons, h x (by simp) b]
    exact foldl_cong (fun y hy => h y (by simp [hy]))
theorem cnt_eq (k z : Int) (l : List Cl) (n : Nd) : cnt k z l n = if cmpl l n then 1 else (nxs k z l n).foldl (fun s p => min (s + cnt k z l p.2) 10001) 0 := by
  show cntF k z l (lft l n + 1) n = _
  rw [cntF]
  split
  · rfl
  · refine foldl_cong fun p hp b => ?_
    unfold cnt
    rw [nxt_lft (mem_nxs.1 hp).2]
theorem lon_eq (k z : Int) (l : List Cl) (n : Nd) : lon k z l n = (nxs k z l n).foldl (fun s p => max s (1 + lon k z l p.2)) 0 := by
  show lonF k z l (lft l n + 1) n = _
  rw [lonF]
  refine foldl_cong fun p hp b => ?_
  unfold lon
  rw [nxt_lft (mem_nxs.1 hp).2]
theorem cnt_le (k z : Int) (l : List Cl) (n : Nd) : cnt k z l n ≤ 10001 := by
  rw [cnt_eq]
  split
  · omega
  · generalize nxs k z l n = L
    suffices h : ∀ (L : List (Nat × Nd)) (s : Nat), s ≤ 10001 → L.foldl (fun s p => min (s + cnt k z l p.2) 10001) s ≤ 10001 from h L 0 (by omega)
    intro L
    induction L with
    | nil => intro s hs; exact hs
    | cons p t ih => intro s hs; exact ih _ (Nat.min_le_right _ _)
theorem foldl_max {α : Type} (f : α → Nat) (B : Nat) : ∀ (L : List α) (s : Nat), s ≤ B → (∀ p ∈ L, f p ≤ B) → L.foldl (fun s p => max s (f p)) s ≤ B
  | [], s, hs, _ => hs
  | p :: t, s, hs, h => foldl_max f B t _ (Nat.max_le.2 ⟨hs, h p (by simp)⟩) (fun q hq => h q (by simp [hq]))
theorem lonF_le (k z : Int) (l : List Cl) : ∀ (f : Nat) (n : Nd), lonF k z l f n ≤ f
  | 0, _ => by simp [lonF]
  | f + 1, n => by
    rw [lonF]
    exact foldl_max (fun p : Nat × Nd => 1 + lonF k z l f p.2) (f + 1) _ _ (by omega) (fun p _ => by have := lonF_le k z l f p.2; omega)
theorem lon_le (k z : Int) (l : List Cl) (n : Nd) : lon k z l n ≤ l.length + 1 := by
  have := lonF_le k z l (lft l n + 1) n
  have := lft_le l n
  unfold lon; omega

/-- partial sums, over the calls below j -/
def cntP (k z : Int) (l : List Cl) (n : Nd) (j : Nat) : Nat := ((List.range j).filterMap (fun i => (nxt k z l n i).map (fun m => (i, m)))).foldl (fun s p => min (s + cnt k z l p.2) 10001) 0
def lonP (k z : Int) (l : List Cl) (n : Nd) (j : Nat) : Nat := ((List.range j).filterMap (fun i => (nxt k z l n i).map (fun m => (i, m)))).foldl (fun s p => max s (1 + lon k z l p.2)) 0
theorem cntP_succ (k z : Int) (l : List Cl) (n : Nd) (j : Nat) : cntP k z l n (j + 1) = match nxt k z l n j with
    | some m => min (cntP k z l n j + cnt k z l m) 10001
    | none => cntP k z l n j := by
  unfold cntP
  rw [List.range_succ, List.filterMap_append, List.foldl_append]
  cases h : nxt k z l n j <;> simp [h]
theorem lonP_succ (k z : Int) (l : List Cl) (n : Nd) (j : Nat) : lonP k z l n (j + 1) = match nxt k z l n j with
    | some m => max (lonP k z l n j) (1 + lon k z l m)
    | none => lonP k z l n j := by
  unfold lonP
  rw [List.range_succ, List.filterMap_append, List.foldl_append]
  cases h : nxt k z l n j <;> simp [h]
theorem cntP_le (k z : Int) (l : List Cl) (n : Nd) : ∀ j, cntP k z l n j ≤ 10001
  | 0 => by simp [cntP]
  | j + 1 => by
    rw [cntP_succ]
    split
    · exact Nat.min_le_right _ _
    · exact cntP_le k z l n j
theorem lonP_le (k z : Int) (l : List Cl) (n : Nd) : ∀ j, lonP k z l n j ≤ l.length + 2
  | 0 => by simp [lonP]
  | j + 1 => by
    rw [lonP_succ]
    have := lonP_le k z l n j
    split
    · next m _ => exact Nat.max_le.2 ⟨this, by have := lon_le k z l m; omega⟩
    · exact this
theorem cnt_P (k z : Int) (l : List Cl) (n : Nd) (h : cmpl l n = false) : cnt k z l n = cntP k z l n l.length := by
  rw [cnt_eq, h]; rfl
theorem lon_P (k z : Int) (l : List Cl) (n : Nd) : lon k z l n = lonP k z l n l.length := by rw [lon_eq]; rfl

/-- nodes as the search meets them -/
structure Gd (k z : Int) (l : List Cl) (n : Nd) : Prop where
  lt : n.1 < 2 ^ l.length
  st : stR k z n.2 = true
theorem Gd.beg0 {k z : Int} (l : List Cl) (h : mdE k z = 0) : Gd k z l (beg0 k) := by
  refine ⟨Nat.two_pow_pos _, ?_⟩
  have : 1 ≤ k ∧ k ≤ 6 ∧ 0 ≤ z := by
    unfold mdE at h
    split at h
    · omega
    · split at h <;> omega
  obtain ⟨h1, h2, h3⟩ := this
  have : k = 1 ∨ k = 2 ∨ k = 3 ∨ k = 4 ∨ k = 5 ∨ k = 6 := by omega
  rcases this with rfl | rfl | rfl | rfl | rfl | rfl <;> simp [stR, Proofs.YtmbkjccckmlacaaDoor.beg0, iniR, lsM, inM, ascL] <;> omega

end Go.Proofs.YtmbkjccckmlacaaDoor

namespace Go.Proofs.YtmbkjccckmlacaaDoor
open Go.RowKit
set_option linter.unusedVariables false
set_option linter.unusedSimpArgs false

theorem ascLpw : ∀ {l : List Int}, ascL l = true ↔ l.Pairwise (· < ·)
  | [] => by simp [ascL]
  | [x] => by simp [ascL]
  | x :: y :: t => by
    rw [ascL, Bool.and_eq_true, decide_eq_true_eq, ascLpw (l := y :: t), List.pairwise_cons (a := x)]
    constructor
    · rintro ⟨h1, h2⟩
      refine ⟨fun b hb => ?_, h2⟩
      rcases List.mem_cons.1 hb with rfl | hb
      · exact h1
      · exact Int.lt_trans h1 ((List.pairwise_cons.1 h2).1 b hb)
    · rintro ⟨h1, h2⟩
      exact ⟨h1 y (by simp), h2⟩
theorem tw_get (x : Int) : ∀ (l : List Int) (y : Int), l[(l.takeWhile (fun y => decide (y < x))).length]? = some y → ¬ y < x
  | [], y, h => by simp at h
  | a :: t, y, h => by
    by_cases ha : a < x
    · simp [List.takeWhile_cons, ha] at h; have := tw_get x t y h; omega
    · simp [List.takeWhile_cons, ha] at h; omega
theorem asc_ins {l : List Int} {x : Int} (h : ascL l = true) (hx : isM l x = false) : ascL (l.take (posM l x) ++ x :: l.drop (posM l x)) = true := by
  rw [ascLpw] at h ⊢
  have e1 : l.take (posM l x) = l.takeWhile (fun y => decide (y < x)) := by
    have := (List.takeWhile_prefix (l := l) (fun y => decide (y < x)))
    exact (List.prefix_iff_eq_take.1 this).symm
  have h1 : ∀ y ∈ l.take (posM l x), y < x := fun y hy => by
    rw [e1] at hy
    have := List.all_takeWhile (l := l) (p := fun y => decide (y < x))
    simpa using List.all_eq_true.1 this y hy
  have h2 : ∀ y ∈ l.drop (posM l x), x < y := by
    have hp := h.sublist (List.drop_sublist (posM l x) l)
    cases hd : l.drop (posM l x) with
    | nil => intro y hy; cases hy
    | cons y t =>
      rw [hd] at hp
      have hy : l[posM l x]? = some y := by
        have := congrArg (·[0]?) hd
        simpa [List.getElem?_drop] using this
      have hn : ¬ y < x := tw_get x l y hy
      have hne : y ≠ x := by
        rintro rfl
        unfold isM at hx
        rw [hy] at hx
        simp at hx
      have hxy : x < y := by omega
      intro q hq
      rcases List.mem_cons.1 hq with rfl | hq
      · exact hxy
      · exact Int.lt_trans hxy ((List.pairwise_cons.1 hp).1 q hq)
  rw [List.pairwise_append]
  refine ⟨h.sublist (List.take_sublist _ _), List.pairwise_cons.2 ⟨h2, h.sublist (List.drop_sublist _ _)⟩, fun p hp q hq => ?_⟩
  rcases List.mem_cons.1 hq with rfl | hq
  · exact h1 p hp
  · exact Int.lt_trans (h1 p hp) (h2 q hq)
theorem ins_ok {k z : Int} {l : List Int} {i : Nat} {x : Int} (hk : k = 3 ∨ k = 4 ∨ k = 5) (hs : stR k z l = true) (hx : inM x = true) (ha : k = 5 → ascL (l.take i ++ x :: l.drop i) = true) (he : (insM z l i x).2.2 = 0) : stR k z (insM z l i x).1 = true := by
  unfold insM at he ⊢
  split
  · exact hs
  · rename_i h1
    split
    · rename_i h2
      rw [if_neg h1, if_pos h2] at he
      simp at he
    · rename_i h2
      unfold stR at hs ⊢
      rw [if_neg (by omega), if_neg (by omega)] at hs ⊢
      simp only [Bool.and_eq_true, List.all_eq_true, decide_eq_true_eq, Bool.or_eq_true] at hs ⊢
      obtain ⟨q1, ⟨q2, q3⟩, q4⟩ := hs
      have hlen : (l.take i ++ x :: l.drop i).length = l.length + 1 := by simp; omega
      refine ⟨fun y hy => ?_, ⟨by omega, ?_⟩, ?_⟩
      · rcases List.mem_append.1 hy with h | h
        · exact q1 y (List.mem_of_mem_take h)
        · rcases List.mem_cons.1 h with rfl | h
          · exact hx
          · exact q1 y (List.mem_of_mem_drop h)
      · rw [hlen]; omega
      · by_cases h5 : k = 5
        · exact Or.inr (ha h5)
        · exact Or.inl h5
theorem rem_ok {k z : Int} {l : List Int} {i : Nat} (hk : k = 3 ∨ k = 4 ∨ k = 5) (hs : stR k z l = true) : stR k z (l.eraseIdx i) = true := by
  unfold stR at hs ⊢
  rw [if_neg (by omega), if_neg (by omega)] at hs ⊢
  simp only [Bool.and_eq_true, List.all_eq_true, decide_eq_true_eq, Bool.or_eq_true] at hs ⊢
  obtain ⟨q1, ⟨q2, q3⟩, q4⟩ := hs
  have hsub := List.eraseIdx_sublist l i
  have hlen := hsub.length_le
  refine ⟨fun y hy => q1 y (hsub.subset hy), ⟨by omega, by omega⟩, ?_⟩
  rcases q4 with q4 | q4
  · exact Or.inl q4
  · exact Or.inr (ascLpw.2 ((ascLpw.1 q4).sublist hsub))
theorem remM_ok {k z : Int} {l : List Int} {i : Nat} (hk : k = 3 ∨ k = 4 ∨ k = 5) (hs : stR k z l = true) : stR k z (remM l i).1 = true := by
  unfold remM
  split
  · exact hs
  · exact rem_ok hk hs
theorem stR_ap {k z : Int} {l : List Int} {m a : Int} (h1 : 1 ≤ k) (h6 : k ≤ 6) (hs : stR k z l = true) (he : (apM k z l m a).2.2 = 0) : stR k z (apM k z l m a).1 = true := by
  unfold apM at he ⊢
  by_cases g1 : knM k m = false
  · rw [if_pos g1] at he; simp at he
  rw [if_neg g1] at he ⊢
  by_cases g2 : inM a = false
  · rw [if_pos g2] at he; simp at he
  rw [if_neg g2] at he ⊢
  have ha : inM a = true := by simpa using g2
  have hk : k = 1 ∨ k = 2 ∨ k = 3 ∨ k = 4 ∨ k = 5 ∨ k = 6 := by omega
  rcases hk with rfl | rfl | rfl | rfl | rfl | rfl
  · simp only [if_true] at he ⊢
    split
    · exact hs
    · simp [stR, ha]
  · simp only [if_true, show ((2 : Int) = 1) = False by simp, if_false] at he ⊢
    split
    · exact hs
    · rename_i hm
      rw [if_neg hm] at he
      split
      · rename_i hi
        simp [stR, hi]
      · rename_i hi
        rw [if_neg hi] at he; simp at he
  · simp only [if_true, show ((3 : Int) = 1) = False by simp, show ((3 : Int) = 2) = False by simp, if_false] at he ⊢
    split
    · rename_i hm
      rw [if_pos hm] at he
      exact ins_ok (by omega) hs ha (by omega) he
    · exact remM_ok (by omega) hs
  · simp only [if_true, show ((4 : Int) = 1) = False by simp, show ((4 : Int) = 2) = False by simp, show ((4 : Int) = 3) = False by simp, if_false] at he ⊢
    split
    · rename_i hm
      rw [if_pos hm] at he
      exact ins_ok (by omega) hs ha (by omega) he
    · exact remM_ok (by omega) hs
  · simp only [if_true, show ((5 : Int) = 1) = False by simp, show ((5 : Int) = 2) = False by simp, show ((5 : Int) = 3) = False by simp, show ((5 : Int) = 4) = False by simp, if_false] at he ⊢
    have hasc : ascL l = true := by
      unfold stR at hs
      simp at hs
      exact hs.2.2
    split
    · rename_i hm
      rw [if_pos hm] at he
      split
      · exact hs
      · rename_i hi
        rw [if_neg hi] at he
        exact ins_ok (by omega) hs ha (fun _ => asc_ins hasc (by simpa using hi)) he
    · split
      · split
        · exact rem_ok (by omega) hs
        · exact hs
      · exact hs
  · simp only [show ((6 : Int) = 1) = False by simp, show ((6 : Int) = 2) = False by simp, show ((6 : Int) = 3) = False by simp, show ((6 : Int) = 4) = False by simp, show ((6 : Int) = 5) = False by simp, if_false] at he ⊢
    split
    · rename_i hm
      rw [if_pos hm] at he
      split
      · simp [stR, inM]
      · rename_i hi
        rw [if_neg hi] at he; simp at he
    · rename_i hm
      rw [if_neg hm] at he
      split
      · simp [stR, inM]
      · rename_i hi
        rw [if_neg hi] at he; simp at he
theorem Gd.nxt {k z : Int} {l : List Cl} {n m : Nd} {i : Nat} (h : Gd k z l n) (h1 : 1 ≤ k) (h6 : k ≤ 6) (hx : nxt k z l n i = some m) : Gd k z l m := by
  obtain ⟨x, hxx, hb, -, he, -, rfl⟩ := nxt_some hx
  refine ⟨?_, stR_ap h1 h6 h.st he⟩
  have hi := (List.getElem?_eq_some_iff.1 hxx).1
  exact Nat.or_lt_two_pow h.lt (Nat.pow_lt_pow_right (by omega) hi)
end Go.Proofs.YtmbkjccckmlacaaDoor

namespace Go.Proofs.YtmbkjccckmlacaaDoor
open Go.RowKit
set_option linter.unusedVariables false
set_option linter.unusedSimpArgs false

/-- the node behind the calls of a list -/
def runO (k z : Int) (l : List Cl) : Nd → List Nat → Option Nd
  | n, [] => some n
  | n, i :: t => (nxt k z l n i).bind (fun m => runO k z l m t)
theorem runO_cons {k z : Int} {l : List Cl} {n m m' : Nd} {i : Nat} {t : List Nat} (h : nxt k z l n i = some m) (h' : runO k z l m t = some m') : runO k z l n (i :: t) = some m' := by
  simp only [runO, h, Option.bind_some, h']
theorem runO_inv {k z : Int} {l : List Cl} {n m' : Nd} {i : Nat} {t : List Nat} (h : runO k z l n (i :: t) = some m') : ∃ m, nxt k z l n i = some m ∧ runO k z l m t = some m' := by
  simp only [runO, Option.bind_eq_some_iff] at h
  exact h
theorem sum_pos (f : Nat × Nd → Nat) : ∀ (L : List (Nat × Nd)) (s : Nat), 0 < L.foldl (fun s p => min (s + f p) 10001) s ↔ 0 < s ∨ ∃ p ∈ L, 0 < f p
  | [], s => by simp
  | p :: t, s => by
    rw [List.foldl_cons, sum_pos f t]
    simp only [List.mem_cons, exists_eq_or_imp]
    have e : 0 < min (s + f p) 10001 ↔ 0 < s ∨ 0 < f p := by omega
    rw [e, or_assoc]
theorem cnt_pos {k z : Int} {l : List Cl} : ∀ (q : Nat) (n : Nd), lft l n = q → (0 < cnt k z l n ↔ ∃ o m, runO k z l n o = some m ∧ cmpl l m = true) := by
  intro q
  induction q using Nat.strongRecOn with
  | _ q IH =>
    intro n hq
    rw [cnt_eq]
    by_cases hc : cmpl l n = true
    · rw [if_pos hc]
      exact ⟨fun _ => ⟨[], n, rfl, hc⟩, fun _ => by omega⟩
    · rw [if_neg hc, sum_pos (fun p => cnt k z l p.2)]
      constructor
      · rintro (h | ⟨p, hp, h⟩)
        · omega
        · have hx := (mem_nxs.1 hp).2
          obtain ⟨o, m, h1, h2⟩ := (IH (lft l p.2) (by have := nxt_lft hx; omega) p.2 rfl).1 h
          exact ⟨p.1 :: o, m, runO_cons hx h1, h2⟩
      · rintro ⟨o, m, h1, h2⟩
        cases o with
        | nil => obtain rfl := Option.some.inj h1; exact absurd h2 hc
        | cons i t =>
          obtain ⟨m', hx, h3⟩ := runO_inv h1
          obtain ⟨x, hx0, -⟩ := nxt_some hx
          exact .inr ⟨(i, m'), mem_nxs.2 ⟨(List.getElem?_eq_some_iff.1 hx0).1, hx⟩, (IH (lft l m') (by have := nxt_lft hx; omega) m' rfl).2 ⟨t, m, h3, h2⟩⟩
theorem cnt_run {k z : Int} {l : List Cl} {n : Nd} : 0 < cnt k z l n ↔ ∃ o m, runO k z l n o = some m ∧ cmpl l m = true := cnt_pos _ n rfl
theorem nxs_of {k z : Int} {l : List Cl} {n m : Nd} {i : Nat} (hx : nxt k z l n i = some m) : (i, m) ∈ nxs k z l n := by
  obtain ⟨x, hx0, -⟩ := nxt_some hx
  exact mem_nxs.2 ⟨(List.getElem?_eq_some_iff.1 hx0).1, hx⟩
/-- what the search finds is a path to the first complete node -/
theorem ser_run {k z : Int} {l : List Cl} : ∀ (f : Nat) (n : Nd), lft l n < f → 0 < cnt k z l n →
    ∃ m, runO k z l n (serF k z l f n) = some m ∧ cmpl l m = true ∧ ∀ j m', j < (serF k z l f n).length → runO k z l n ((serF k z l f n).take j) = some m' → cmpl l m' = false
  | 0, n, h, _ => by omega
  | f + 1, n, h, hp => by
    rw [serF]
    by_cases hc : cmpl l n = true
    · rw [if_pos hc]
      exact ⟨n, rfl, hc, fun j m' hj _ => by simp at hj⟩
    · rw [if_neg hc]
      cases hf : (nxs k z l n).find? (fun p => decide (0 < cnt k z l p.2)) with
      | none =>
        rw [cnt_eq, if_neg hc, sum_pos (fun p => cnt k z l p.2)] at hp
        rcases hp with hp | ⟨p, hp, h0⟩
        · omega
        · have := List.find?_eq_none.1 hf p hp
          simp at this; omega
      | some p =>
        dsimp only
        have h0 : 0 < cnt k z l p.2 := by simpa using List.find?_some hf
        have hx := (mem_nxs.1 (List.mem_of_find?_eq_some hf)).2
        obtain ⟨m, h1, h2, h3⟩ := ser_run f p.2 (by have := nxt_lft hx; omega) h0
        refine ⟨m, runO_cons hx h1, h2, fun j m' hj hr => ?_⟩
        cases j with
        | zero => obtain rfl := Option.some.inj hr; simpa using hc
        | succ j =>
          rw [List.take_succ_cons] at hr
          obtain ⟨m1, e1, e2⟩ := runO_inv hr
          obtain rfl := Option.some.inj (hx.symm.trans e1)
          exact h3 j m' (by simpa using hj) e2
theorem serR_true {k z : Int} {l : List Cl} : (serR k z l).2 = true ↔ 0 < cnt k z l (beg0 k) := by
  unfold serR
  split
  · next h => simp [h]
  · next h => simp; omega
theorem srh_iff {k z : Int} {l : List Cl} : (srhR k z l).2.1 = true ↔ srE k z l = 0 ∧ 0 < cnt k z l (beg0 k) := by
  unfold srhR
  split
  · next h => simp [h]
  · next h => simp only [serR_true]; exact ⟨fun g => ⟨by simpa using h, g⟩, fun g => g.2⟩
theorem srh_e {k z : Int} {l : List Cl} : (srhR k z l).2.2 = srE k z l := by
  unfold srhR
  split
  · rfl
  · next h => exact (by simpa using h : srE k z l = 0).symm
end Go.Proofs.YtmbkjccckmlacaaDoor

namespace Go.Proofs.YtmbkjccckmlacaaDoor
open Go.RowKit
set_option linter.unusedVariables false

theorem ownsRow_extI {base : Nat} {e : TypeId} {k : Nat} {v : Value} {n : Nat} {xs : List Value} {w w' : World} (h : w.ownsRow base e k v n xs) (hb : Below w.heap.size w w') : w'.ownsRow base e k v n xs :=
  h.kept (row := none) ⟨hb.os, hb.tape, hb.output, hb.size, fun i hi _ => hb.block i hi⟩ (by cases v.ownBlock with | none => exact .inl rfl | some j => exact .inr (by simp))
variable {ops : Array Oper} {rest : List Oper} {o : Oper} {a : Act} {Q : Exit → Act → World → Prop}
/-- v is a slice of integers of the call's own, holding l -/
def RowI (base : Nat) (v : Value) (l : List Int) (w : World) : Prop := w.ownsRow base 3 1 v l.length (l.map (Value.int .i64))
theorem infoI' : (Tryd.prog.info? 3).map (fun i => (i.zero, i.size, i.bytes)) = some (some (.int .i64 0), 1, 8) := by kernel_rfl
theorem RowI.nil (base : Nat) (w : World) : RowI base (.slice none 0 0) [] w := World.ownsRow_nil _ _ _ _
theorem RowI.empty (w : World) (base : Nat) (hb : base ≤ w.heap.size) : RowI base (.slice (some ⟨w.heap.size, 0, none⟩) 0 0) [] (w.alloc (.cells #[] 3)) :=
  World.ownsRow_lit w #[] 0 hb (by unfold maxLen; omega) (by simp)
theorem RowI.ext {base : Nat} {v : Value} {l : List Int} {w w' : World} (h : RowI base v l w) (hb : Below w.heap.size w w') : RowI base v l w' := ownsRow_extI h hb
theorem RowI.forms {base : Nat} {v : Value} {l : List Int} {w : World} (h : RowI base v l w) : (v = .slice none 0 0 ∧ l.length = 0) ∨ ∃ g cap, v = .slice (some ⟨g, 0, none⟩) l.length cap := Go.Joins.ownsRow_forms h
theorem RowI.ints {base : Nat} {v : Value} {l : List Int} {w : World} (h : RowI base v l w) : ∃ x c, v = .slice x l.length c ∧ IntsAt w x l ∧ (∀ y, x = some y → base ≤ y.block) ∧ (x = none → c = 0) := by
  rcases h.forms with ⟨rfl, h0⟩ | ⟨g, cap, rfl⟩
  · obtain rfl := List.eq_nil_of_length_eq_zero h0
    exact ⟨none, 0, rfl, IntsAt.nil, (fun y e => by cases e), fun _ => rfl⟩
  · refine ⟨_, _, rfl, fun i hi => ⟨_, _, rfl, ?_⟩, (fun y e => by cases e; exact (World.ownsRow.lt h g rfl).1), (fun e => by cases e)⟩
    rw [Nat.zero_add, World.ownsRow.cellAt h i (by omega)]
    simp [hi]

theorem wp_appI (hgd : o.guard = none) (s x : Operand) (ho : o.op = .call { callee := .builtin .append, args := #[s, x], argTypes := #[27, 27] })
    (base : Nat) (v : Value) (l : List Int) (hs : a.eval s = v) (W : World) (h : RowI base v l W) (n : Int) (hx : a.eval x = .slice (some ⟨W.heap.size, 0, none⟩) 1 1) (hlen : l.length ≤ 10000000000) (hbase : base ≤ W.heap.size)
    (hK : ∀ v' w', RowI base v' (l ++ [n]) w' → Below base W w' → wpList Tryd.prog ops Q rest (a.put o.dst v') w') : wpList Tryd.prog ops Q (o :: rest) a (W.alloc (.cells #[.int .i64 n] 3)) := by
  obtain ⟨i0, hi, hz0, hz1, hz2⟩ := info_parts infoI'
  refine wpList_append_own _ hgd s x 27 ho base 3 i0 (.int .i64 0) 1 8 Tryd.underlying27 hi hz0 hz1 hz2 rfl (by decide) v l.length (l.map (Value.int .i64)) hs (World.ownsRow.alloc h _) ⟨W.heap.size, 0, none⟩ 1 1 [.int .i64 n] hx rfl (cell_one_new _ _ _) (by simp [Value.oneCell']) (by unfold maxLen; omega) (by omega) (by simp; omega) ?_
  intro v' w' hown hg _
  refine hK v' w' ?_ ?_
  · unfold RowI
    simpa using hown
  · exact ((Below.refl base W).alloc hbase _).grown hg (by simp; omega) (fun k e => (World.ownsRow.lt h k e).1)

end Go.Proofs.YtmbkjccckmlacaaDoor

namespace Go.Proofs.YtmbkjccckmlacaaDoor
open Go.RowKit
set_option linter.unusedVariables false
set_option linter.unusedSimpArgs false

theorem inRange_any (n : Int) (w : World) : Gives Tryd.prog 70 #[.int .i64 n] w (.bool (inM n)) := by
  unfold Gives
  have HI := Lib.hid (show inM n = (decide (-1099511627776 ≤ n) && decide (n ≤ 1099511627776)) by unfold inM; rw [Bool.decide_and])
  by_cases h1 : -1099511627776 ≤ n
  · have d1 : decide (-1099511627776 ≤ n) = true := by simpa using h1
    go_enter Tryd.func70, Tryd.ntmps70
    go_wp2
    go_ret
    exact ⟨by rw [HI.out]; simp [d1], Below.refl _ _⟩
  · have d1 : decide (-1099511627776 ≤ n) = false := by simp; omega
    go_enter Tryd.func70, Tryd.ntmps70
    go_wp2
    go_ret
    exact ⟨by rw [HI.out, d1]; rfl, Below.refl _ _⟩

theorem mdb0 (w : World) (k z : Int) : (w.alloc (.cells #[.int .i64 k, .int .i64 z] 23)).cell? ⟨w.heap.size, 0, none⟩ = some (.int .i64 k) := cell_of (alloc_here w _) rfl
theorem mdb1 (w : World) (k z : Int) : (w.alloc (.cells #[.int .i64 k, .int .i64 z] 23)).cell? ⟨w.heap.size, 1, none⟩ = some (.int .i64 z) := cell_of (alloc_here w _) rfl
def mdV (k z : Int) : Value := .agg #[.int .i64 k, .int .i64 z]
theorem checkModel_any (k z : Int) (w : World) : Gives Tryd.prog 48 #[.agg #[.int .i64 k, .int .i64 z]] w (.int .i64 (mdE k z)) := by
  unfold Gives
  have HM := Lib.hid (show mdE k z = if k < 1 ∨ 6 < k then 8 else if z < 0 ∨ (if lsM k then 100 else 0) < z then 2 else 0 from rfl)
  have HX := Lib.hid (show Ext w (w.alloc (.cells #[.int .i64 k, .int .i64 z] 23)) from (Below.refl _ w).alloc (Nat.le_refl _) _)
  have c0 := mdb0 w k z
  have c1 := mdb1 w k z
  generalize mdE k z = R at *
  by_cases h1 : k < 1
  · have HR := Lib.hid (show R = 8 by rw [HM.out, if_pos (Or.inl h1)])
    have d1 : decide (k < 1) = true := by simpa using h1
    clear h1 HM
    go_enter Tryd.func48, Tryd.ntmps48
    go_wp2
    go_ret
    exact ⟨by rw [HR.out]; rfl, HX.out⟩
  · have d1 : decide (k < 1) = false := by simpa using h1
    by_cases h2 : 6 < k
    · have HR := Lib.hid (show R = 8 by rw [HM.out, if_pos (Or.inr h2)])
      have d2 : decide (6 < k) = true := by simpa using h2
      clear h1 h2 HM
      go_enter Tryd.func48, Tryd.ntmps48
      go_wp2
      go_ret
      exact ⟨by rw [HR.out]; rfl, HX.out⟩
    · have d2 : decide (6 < k) = false := by simpa using h2
      have HM2 := Lib.hid (show R = if z < 0 ∨ (if lsM k then 100 else 0) < z then 2 else 0 by rw [HM.out, if_neg (by omega)])
      clear HM
      by_cases h3 : 3 ≤ k
      · have d3 : decide (3 ≤ k) = true := by simpa using h3
        by_cases h4 : k ≤ 5
        · have d4 : decide (k ≤ 5) = true := by simpa using h4
          have HM3 := Lib.hid (show R = if z < 0 ∨ 100 < z then 2 else 0 by rw [HM2.out, if_pos (show lsM k = true by simp [lsM]; omega)])
          by_cases h5 : z < 0
          · have d5 : decide (z < 0) = true := by simpa using h5
            have HR := Lib.hid (show R = 2 by rw [HM3.out, if_pos (Or.inl h5)])
            clear h1 h2 h3 h4 h5
            go_enter Tryd.func48, Tryd.ntmps48
            go_wp2
            go_ret
            exact ⟨by rw [HR.out]; rfl, HX.out⟩
          · have d5 : decide (z < 0) = false := by simpa using h5
            by_cases h6 : 100 < z
            · have d6 : decide (100 < z) = true := by simpa using h6
              have HR := Lib.hid (show R = 2 by rw [HM3.out, if_pos (Or.inr h6)])
              clear h1 h2 h3 h4 h5 h6
              go_enter Tryd.func48, Tryd.ntmps48
              go_wp2
              go_ret
              exact ⟨by rw [HR.out]; rfl, HX.out⟩
            · have d6 : decide (100 < z) = false := by simpa using h6
              have HR := Lib.hid (show R = 0 by rw [HM3.out, if_neg (by omega)])
              clear h1 h2 h3 h4 h5 h6
              go_enter Tryd.func48, Tryd.ntmps48
              go_wp2
              go_ret
              exact ⟨by rw [HR.out]; rfl, HX.out⟩
        · have d4 : decide (k ≤ 5) = false := by simpa using h4
          have HM3 := Lib.hid (show R = if z < 0 ∨ 0 < z then 2 else 0 by rw [HM2.out, if_neg (show ¬ lsM k = true by simp [lsM]; omega)])
          by_cases h5 : z < 0
          · have d5 : decide (z < 0) = true := by simpa using h5
            have HR := Lib.hid (show R = 2 by rw [HM3.out, if_pos (Or.inl h5)])
            clear h1 h2 h3 h4 h5
            go_enter Tryd.func48, Tryd.ntmps48
            go_wp2
            go_ret
            exact ⟨by rw [HR.out]; rfl, HX.out⟩
          · have d5 : decide (z < 0) = false := by simpa using h5
            by_cases h6 : 0 < z
            · have d6 : decide (0 < z) = true := by simpa using h6
              have HR := Lib.hid (show R = 2 by rw [HM3.out, if_pos (Or.inr h6)])
              clear h1 h2 h3 h4 h5 h6
              go_enter Tryd.func48, Tryd.ntmps48
              go_wp2
              go_ret
              exact ⟨by rw [HR.out]; rfl, HX.out⟩
            · have d6 : decide (0 < z) = false := by simpa using h6
              have HR := Lib.hid (show R = 0 by rw [HM3.out, if_neg (by omega)])
              clear h1 h2 h3 h4 h5 h6
              go_enter Tryd.func48, Tryd.ntmps48
              go_wp2
              go_ret
              exact ⟨by rw [HR.out]; rfl, HX.out⟩
      · have d3 : decide (3 ≤ k) = false := by simpa using h3
        have HM3 := Lib.hid (show R = if z < 0 ∨ 0 < z then 2 else 0 by rw [HM2.out, if_neg (show ¬ lsM k = true by simp [lsM]; omega)])
        by_cases h5 : z < 0
        · have d5 : decide (z < 0) = true := by simpa using h5
          have HR := Lib.hid (show R = 2 by rw [HM3.out, if_pos (Or.inl h5)])
          clear h1 h2 h3 h5
          go_enter Tryd.func48, Tryd.ntmps48
          go_wp2
          go_ret
          exact ⟨by rw [HR.out]; rfl, HX.out⟩
        · have d5 : decide (z < 0) = false := by simpa using h5
          by_cases h6 : 0 < z
          · have d6 : decide (0 < z) = true := by simpa using h6
            have HR := Lib.hid (show R = 2 by rw [HM3.out, if_pos (Or.inr h6)])
            clear h1 h2 h3 h5 h6
            go_enter Tryd.func48, Tryd.ntmps48
            go_wp2
            go_ret
            exact ⟨by rw [HR.out]; rfl, HX.out⟩
          · have d6 : decide (0 < z) = false := by simpa using h6
            have HR := Lib.hid (show R = 0 by rw [HM3.out, if_neg (by omega)])
            clear h1 h2 h3 h5 h6
            go_enter Tryd.func48, Tryd.ntmps48
            go_wp2
            go_ret
            exact ⟨by rw [HR.out]; rfl, HX.out⟩

/-- a slice is new, or the one that is given -/
def Frm (w : World) (a0 : Option Addr) (l : List Int) (a : Option Addr) (m : List Int) : Prop := (∀ x, a = some x → w.heap.size ≤ x.block) ∨ (a = a0 ∧ m = l)
theorem Frm.none {w : World} {a0 : Option Addr} {l m : List Int} : Frm w a0 l none m := .inl (fun x e => by cases e)
theorem Frm.same {w : World} {a : Option Addr} {l : List Int} : Frm w a l a l := .inr ⟨rfl, rfl⟩
theorem Frm.lit {w : World} {a0 : Option Addr} {l m : List Int} {n : Nat} (h : w.heap.size ≤ n) : Frm w a0 l (some ⟨n, 0, .none⟩) m := .inl (fun x e => by cases e; exact h)
theorem Frm.up {w W : World} {a0 a : Option Addr} {l m : List Int} (h : Frm W a0 l a m) (hE : Ext w W) : Frm w a0 l a m := h.imp (fun h x e => Nat.le_trans hE.size (h x e)) id
/-- a result that is a state of the call's own, a number, and an error -/
def ApP (w : World) (a0 : Option Addr) (l : List Int) (R : List Int × Int × Int) (e : Ending) (w' : World) : Prop :=
  ∃ a c, e = .returned (.tuple #[.slice a R.1.length c, .int .i64 R.2.1, .int .i64 R.2.2]) ∧ IntsAt w' a R.1 ∧ R.1.length ≤ c ∧ Ext w w' ∧ Frm w a0 l a R.1
/-- a slice that holds a state -/
def StP (w : World) (l : List Int) (e : Ending) (w' : World) : Prop := ∃ a c, e = .returned (.slice a l.length c) ∧ IntsAt w' a l ∧ l.length ≤ c ∧ Ext w w' ∧ ∀ x, a = some x → w.heap.size ≤ x.block
theorem ext_allocN (w : World) (o : Obj) : Ext w (w.alloc o) := (Below.refl _ w).alloc (Nat.le_refl _) _
theorem ints_lit1 (w : World) (x : Int) (t : TypeId) : IntsAt (w.alloc (.cells #[.int .i64 x] t)) (some ⟨w.heap.size, 0, none⟩) [x] := by
  intro i hi
  obtain rfl : i = 0 := by simp at hi; omega
  exact ⟨_, _, rfl, cell_of (alloc_here w (.cells #[.int .i64 x] t)) rfl⟩
theorem ints_lit1' (w : World) (x : Int) (t : TypeId) {n : Nat} (hn : n = w.heap.size) : IntsAt (w.alloc (.cells #[.int .i64 x] t)) (some ⟨n, 0, none⟩) [x] := by subst hn; exact ints_lit1 w x t
theorem initial_any (k z : Int) (w : World) : Calls Tryd.prog 66 #[.agg #[.int .i64 k, .int .i64 z]] w (StP w (iniR k)) := by
  have HX := Lib.hid (show Ext w (w.alloc (.cells #[.int .i64 k, .int .i64 z] 23)) from (Below.refl _ w).alloc (Nat.le_refl _) _)
  have c0 := mdb0 w k z
  by_cases h3 : 3 ≤ k
  · have d3 : decide (3 ≤ k) = true := by simpa using h3
    by_cases h4 : k ≤ 5
    · have d4 : decide (k ≤ 5) = true := by simpa using h4
      have HR := Lib.hid (show iniR k = [] by unfold iniR; rw [if_pos (by simp [lsM]; omega)])
      generalize iniR k = R at *
      clear h3 h4
      go_enter Tryd.func66, Tryd.ntmps66
      go_wp2
      go_ret
      obtain rfl := HR.out
      exact ⟨_, _, rfl, IntsAt.nil, by simp, HX.out, fun x e => by cases e⟩
    · have d4 : decide (k ≤ 5) = false := by simpa using h4
      have HR := Lib.hid (show iniR k = [0] by unfold iniR; rw [if_neg (by simp [lsM]; omega)])
      generalize iniR k = R at *
      clear h3 h4
      go_enter Tryd.func66, Tryd.ntmps66
      go_wp2
      go_ret
      obtain rfl := HR.out
      exact ⟨_, _, rfl, ints_lit1' _ _ _ (by simp), by simp, HX.out.alloc (by simp) _, fun x e => by cases e; simp⟩
  · have d3 : decide (3 ≤ k) = false := by simpa using h3
    have HR := Lib.hid (show iniR k = [0] by unfold iniR; rw [if_neg (by simp [lsM]; omega)])
    generalize iniR k = R at *
    clear h3
    go_enter Tryd.func66, Tryd.ntmps66
    go_wp2
    go_ret
    obtain rfl := HR.out
    exact ⟨_, _, rfl, ints_lit1' _ _ _ (by simp), by simp, HX.out.alloc (by simp) _, fun x e => by cases e; simp⟩

end Go.Proofs.YtmbkjccckmlacaaDoor

namespace Go.Proofs.YtmbkjccckmlacaaDoor
open Go.RowKit
set_option linter.unusedVariables false
set_option linter.unusedSimpArgs false

def Cl.cells (w : World) (b o : Nat) (x : Cl) : Prop := w.cell? ⟨b, o, none⟩ = some (.int .i64 x.task) ∧ w.cell? ⟨b, o + 1, none⟩ = some (.int .i64 x.meth) ∧ w.cell? ⟨b, o + 2, none⟩ = some (.int .i64 x.arg) ∧ w.cell? ⟨b, o + 3, none⟩ = some (.int .i64 x.res) ∧ w.cell? ⟨b, o + 4, none⟩ = some (.int .i64 x.beg) ∧ w.cell? ⟨b, o + 5, none⟩ = some (.int .i64 x.en)
/-- the calls that lie at p -/
def HsAt (w : World) (p : Option Addr) (l : List Cl) : Prop := ∀ i (h : i < l.length), ∃ b o, p = some ⟨b, o, none⟩ ∧ Cl.cells w b (o + i * 6) l[i]
theorem HsAt.ext {w W : World} {p : Option Addr} {l : List Cl} (h : HsAt w p l) (hE : Ext w W) : HsAt W p l := fun i hi => by
  obtain ⟨b, o, e, c0, c1, c2, c3, c4, c5⟩ := h i hi
  have k : ∀ {a : Addr} {v : Value}, w.cell? a = some v → W.cell? a = some v := fun hc => (hE.below.cell (cell_lt hc)).trans hc
  exact ⟨b, o, e, k c0, k c1, k c2, k c3, k c4, k c5⟩
/-- the operation's cells -/
abbrev cClO (x : Cl) : Obj := .cells #[.int .i64 x.task, .int .i64 x.meth, .int .i64 x.arg, .int .i64 x.res, .int .i64 x.beg, .int .i64 x.en] 48

def wiB (n lo hi : Int) : Bool := decide (lo ≤ n) && decide (n ≤ hi)
theorem within_any (n lo hi : Int) (w : World) : Gives Tryd.prog 61 #[.int .i64 n, .int .i64 lo, .int .i64 hi] w (.bool (wiB n lo hi)) := by
  unfold Gives
  have HI := Lib.hid (show wiB n lo hi = (decide (lo ≤ n) && decide (n ≤ hi)) from rfl)
  by_cases h1 : lo ≤ n
  · have d1 : decide (lo ≤ n) = true := by simpa using h1
    go_enter Tryd.func61, Tryd.ntmps61
    go_wp2
    go_ret
    exact ⟨by rw [HI.out, d1]; simp, Below.refl _ _⟩
  · have d1 : decide (lo ≤ n) = false := by simpa using h1
    go_enter Tryd.func61, Tryd.ntmps61
    go_wp2
    go_ret
    exact ⟨by rw [HI.out, d1]; rfl, Below.refl _ _⟩
theorem inM_wi (n : Int) : inM n = wiB n (-1099511627776) 1099511627776 := by unfold inM wiB; rw [Bool.decide_and]
/-- what call finds, in the order of its text -/
theorem clE_of (l : List Cl) (i : Nat) (x : Cl) : clE l i x = if wiB x.task 0 15 = false then 2 else if wiB x.meth 0 99 = false then 2 else if wiB x.arg (-1099511627776) 1099511627776 = false then 2 else if wiB x.res (-1099511627776) 1099511627776 = false then 2 else
    if x.beg < 0 then 2 else if x.en < -1 then 2 else if x.en = -1 ∧ x.res ≠ 0 then 2 else if 0 < i ∧ x.beg ≤ (l[i - 1]?.map (·.beg)).getD 0 then 9 else if x.en ≠ -1 ∧ x.en ≤ x.beg then 9 else 0 := by
  unfold clE
  rw [inM_wi, inM_wi]
  have e1 : (0 ≤ x.task ∧ x.task ≤ 15) ↔ wiB x.task 0 15 = true := by simp [wiB]
  have e2 : (0 ≤ x.meth ∧ x.meth ≤ 99) ↔ wiB x.meth 0 99 = true := by simp [wiB]
  simp only [e1, e2]
  generalize wiB x.task 0 15 = b1
  generalize wiB x.meth 0 99 = b2
  generalize wiB x.arg (-1099511627776) 1099511627776 = b3
  generalize wiB x.res (-1099511627776) 1099511627776 = b4
  cases b1 <;> cases b2 <;> cases b3 <;> cases b4 <;> simp
  by_cases h1 : x.beg < 0
  · simp [h1]
  · by_cases h2 : x.en < -1
    · simp [h1, h2]
    · by_cases h3 : x.en = -1 ∧ ¬ x.res = 0
      · simp [h1, h2, h3]
      · simp only [h1, h2, h3, if_false, or_self, or_false, false_or]
        by_cases h4 : 0 < i ∧ x.beg ≤ (l[i - 1]?.map (·.beg)).getD 0
        · simp only [if_pos h4, if_pos (Or.inl h4)]
        · by_cases h5 : ¬ x.en = -1 ∧ x.en ≤ x.beg
          · simp only [if_neg h4, if_pos h5, if_pos (Or.inr h5)]
          · simp only [if_neg h4, if_neg h5, if_neg (not_or.2 ⟨h4, h5⟩)]

theorem callE_at {l : List Cl} {i : Nat} (hi : i < l.length) : callE l i = clE l i l[i] := by
  unfold callE; rw [List.getElem?_eq_getElem hi]

/-- the cells of the call's own copy, in every later world -/
theorem cl_box {w W : World} {x : Cl} (h : Ext (w.alloc (cClO x)) W) : Cl.cells W w.heap.size 0 x ∧ w.heap.size < W.heap.size := by
  have hb := (h.below.block _ (lt_of_block (alloc_here w (cClO x)))).trans (alloc_here w (cClO x))
  exact ⟨⟨cell_of hb rfl, cell_of hb rfl, cell_of hb rfl, cell_of hb rfl, cell_of hb rfl, cell_of hb rfl⟩, lt_of_block hb⟩

set_option maxRecDepth 100000 in
set_option maxHeartbeats 4000000 in
theorem call_w0 (l : List Cl) (b off c i n : Nat) (tk me ar re be en : Int) (w : World) (hn : n ≤ 100) (hi : i < n)
    (h : Cl.cells w b (off + i * 6) ⟨tk, me, ar, re, be, en⟩) (h1 : wiB tk 0 15 = false) :
    Gives Tryd.prog 34 #[.slice (some ⟨b, off, none⟩) n c, .int .i64 ((i : Int))] w (.int .i64 2) := by
  unfold Gives
  obtain ⟨q0, q1, q2, q3, q4, q5⟩ := h
  have HX := Lib.hid (fun W (hW : Ext (w.alloc (cClO ⟨tk, me, ar, re, be, en⟩)) W) => cl_box hW)
  have HE0 := Lib.hid (Below.refl (w.alloc (cClO ⟨tk, me, ar, re, be, en⟩)).heap.size (w.alloc (cClO ⟨tk, me, ar, re, be, en⟩)))
  go_enter Tryd.func34, Tryd.ntmps34
  go_wp2_with fail
  refine (within_any _ _ _ _).mono ?_
  intro w1 hB1
  have HE1 := Lib.hid (Ext.trans HE0.out hB1)
  clear hB1
  obtain ⟨⟨r0, r1, r2, r3, r4, r5⟩, hz⟩ := HX.out _ HE1.out
  go_wp2_with fail
  go_ret
  exact ⟨rfl, (Ext.trans (ext_allocN w _) HE1.out)⟩
set_option maxRecDepth 100000 in
set_option maxHeartbeats 4000000 in
theorem call_w1 (l : List Cl) (b off c i n : Nat) (tk me ar re be en : Int) (w : World) (hn : n ≤ 100) (hi : i < n)
    (h : Cl.cells w b (off + i * 6) ⟨tk, me, ar, re, be, en⟩) (h1 : wiB tk 0 15 = true) (h2 : wiB me 0 99 = false) :
    Gives Tryd.prog 34 #[.slice (some ⟨b, off, none⟩) n c, .int .i64 ((i : Int))] w (.int .i64 2) := by
  unfold Gives
  obtain ⟨q0, q1, q2, q3, q4, q5⟩ := h
  have HX := Lib.hid (fun W (hW : Ext (w.alloc (cClO ⟨tk, me, ar, re, be, en⟩)) W) => cl_box hW)
  have HE0 := Lib.hid (Below.refl (w.alloc (cClO ⟨tk, me, ar, re, be, en⟩)).heap.size (w.alloc (cClO ⟨tk, me, ar, re, be, en⟩)))
  go_enter Tryd.func34, Tryd.ntmps34
  go_wp2_with fail
  refine (within_any _ _ _ _).mono ?_
  intro w1 hB1
  have HE1 := Lib.hid (Ext.trans HE0.out hB1)
  clear hB1
  obtain ⟨⟨r0, r1, r2, r3, r4, r5⟩, hz⟩ := HX.out _ HE1.out
  go_wp2_with fail
  clear r0 r1 r2 r3 r4 r5 hz
  refine (within_any _ _ _ _).mono ?_
  intro w2 hB2
  have HE2 := Lib.hid (Ext.trans HE1.out hB2)
  clear hB2
  obtain ⟨⟨r0, r1, r2, r3, r4, r5⟩, hz⟩ := HX.out _ HE2.out
  go_wp2_with fail
  go_ret
  exact ⟨rfl, (Ext.trans (ext_allocN w _) HE2.out)⟩
set_option maxRecDepth 100000 in
set_option maxHeartbeats 4000000 in
theorem call_w2 (l : List Cl) (b off c i n : Nat) (tk me ar re be en : Int) (w : World) (hn : n ≤ 100) (hi : i < n)
    (h : Cl.cells w b (off + i * 6) ⟨tk, me, ar, re, be, en⟩) (h1 : wiB tk 0 15 = true) (h2 : wiB me 0 99 = true) (h3 : wiB ar (-1099511627776) 1099511627776 = false) :
    Gives Tryd.prog 34 #[.slice (some ⟨b, off, none⟩) n c, .int .i64 ((i : Int))] w (.int .i64 2) := by
  unfold Gives
  obtain ⟨q0, q1, q2, q3, q4, q5⟩ := h
  have HX := Lib.hid (fun W (hW : Ext (w.alloc (cClO ⟨tk, me, ar, re, be, en⟩)) W) => cl_box hW)
  have HE0 := Lib.hid (Below.refl (w.alloc (cClO ⟨tk, me, ar, re, be, en⟩)).heap.size (w.alloc (cClO ⟨tk, me, ar, re, be, en⟩)))
  go_enter Tryd.func34, Tryd.ntmps34
  go_wp2_with fail
  refine (within_any _ _ _ _).mono ?_
  intro w1 hB1
  have HE1 := Lib.hid (Ext.trans HE0.out hB1)
  clear hB1
  obtain ⟨⟨r0, r1, r2, r3, r4, r5⟩, hz⟩ := HX.out _ HE1.out
  go_wp2_with fail
  clear r0 r1 r2 r3 r4 r5 hz
  refine (within_any _ _ _ _).mono ?_
  intro w2 hB2
  have HE2 := Lib.hid (Ext.trans HE1.out hB2)
  clear hB2
  obtain ⟨⟨r0, r1, r2, r3, r4, r5⟩, hz⟩ := HX.out _ HE2.out
  go_wp2_with fail
  clear r0 r1 r2 r3 r4 r5 hz
  refine (within_any _ _ _ _).mono ?_
  intro w3 hB3
  have HE3 := Lib.hid (Ext.trans HE2.out hB3)
  clear hB3
  obtain ⟨⟨r0, r1, r2, r3, r4, r5⟩, hz⟩ := HX.out _ HE3.out
  go_wp2_with fail
  go_ret
  exact ⟨rfl, (Ext.trans (ext_allocN w _) HE3.out)⟩
set_option maxRecDepth 100000 in
set_option maxHeartbeats 4000000 in
theorem call_w3 (l : List Cl) (b off c i n : Nat) (tk me ar re be en : Int) (w : World) (hn : n ≤ 100) (hi : i < n)
    (h : Cl.cells w b (off + i * 6) ⟨tk, me, ar, re, be, en⟩) (h1 : wiB tk 0 15 = true) (h2 : wiB me 0 99 = true) (h3 : wiB ar (-1099511627776) 1099511627776 = true) (h4 : wiB re (-1099511627776) 1099511627776 = false) :
    Gives Tryd.prog 34 #[.slice (some ⟨b, off, none⟩) n c, .int .i64 ((i : Int))] w (.int .i64 2) := by
  unfold Gives
  obtain ⟨q0, q1, q2, q3, q4, q5⟩ := h
  have HX := Lib.hid (fun W (hW : Ext (w.alloc (cClO ⟨tk, me, ar, re, be, en⟩)) W) => cl_box hW)
  have HE0 := Lib.hid (Below.refl (w.alloc (cClO ⟨tk, me, ar, re, be, en⟩)).heap.size (w.alloc (cClO ⟨tk, me, ar, re, be, en⟩)))
  go_enter Tryd.func34, Tryd.ntmps34
  go_wp2_with fail
  refine (within_any _ _ _ _).mono ?_
  intro w1 hB1
  have HE1 := Lib.hid (Ext.trans HE0.out hB1)
  clear hB1
  obtain ⟨⟨r0, r1, r2, r3, r4, r5⟩, hz⟩ := HX.out _ HE1.out
  go_wp2_with fail
  clear r0 r1 r2 r3 r4 r5 hz
  refine (within_any _ _ _ _).mono ?_
  intro w2 hB2
  have HE2 := Lib.hid (Ext.trans HE1.out hB2)
  clear hB2
  obtain ⟨⟨r0, r1, r2, r3, r4, r5⟩, hz⟩ := HX.out _ HE2.out
  go_wp2_with fail
  clear r0 r1 r2 r3 r4 r5 hz
  refine (within_any _ _ _ _).mono ?_
  intro w3 hB3
  have HE3 := Lib.hid (Ext.trans HE2.out hB3)
  clear hB3
  obtain ⟨⟨r0, r1, r2, r3, r4, r5⟩, hz⟩ := HX.out _ HE3.out
  go_wp2_with fail
  clear r0 r1 r2 r3 r4 r5 hz
  refine (within_any _ _ _ _).mono ?_
  intro w4 hB4
  have HE4 := Lib.hid (Ext.trans HE3.out hB4)
  clear hB4
  obtain ⟨⟨r0, r1, r2, r3, r4, r5⟩, hz⟩ := HX.out _ HE4.out
  go_wp2_with fail
  go_ret
  exact ⟨rfl, (Ext.trans (ext_allocN w _) HE4.out)⟩
set_option maxRecDepth 100000 in
set_option maxHeartbeats 4000000 in
theorem call_b0 (l : List Cl) (b off c i n : Nat) (tk me ar re be en : Int) (w : World) (hn : n ≤ 100) (hi : i < n)
    (h : Cl.cells w b (off + i * 6) ⟨tk, me, ar, re, be, en⟩) (h1 : wiB tk 0 15 = true) (h2 : wiB me 0 99 = true) (h3 : wiB ar (-1099511627776) 1099511627776 = true) (h4 : wiB re (-1099511627776) 1099511627776 = true) (h5 : decide (be < 0) = true) :
    Gives Tryd.prog 34 #[.slice (some ⟨b, off, none⟩) n c, .int .i64 ((i : Int))] w (.int .i64 2) := by
  unfold Gives
  obtain ⟨q0, q1, q2, q3, q4, q5⟩ := h
  have HX := Lib.hid (fun W (hW : Ext (w.alloc (cClO ⟨tk, me, ar, re, be, en⟩)) W) => cl_box hW)
  have HE0 := Lib.hid (Below.refl (w.alloc (cClO ⟨tk, me, ar, re, be, en⟩)).heap.size (w.alloc (cClO ⟨tk, me, ar, re, be, en⟩)))
  go_enter Tryd.func34, Tryd.ntmps34
  go_wp2_with fail
  refine (within_any _ _ _ _).mono ?_
  intro w1 hB1
  have HE1 := Lib.hid (Ext.trans HE0.out hB1)
  clear hB1
  obtain ⟨⟨r0, r1, r2, r3, r4, r5⟩, hz⟩ := HX.out _ HE1.out
  go_wp2_with fail
  clear r0 r1 r2 r3 r4 r5 hz
  refine (within_any _ _ _ _).mono ?_
  intro w2 hB2
  have HE2 := Lib.hid (Ext.trans HE1.out hB2)
  clear hB2
  obtain ⟨⟨r0, r1, r2, r3, r4, r5⟩, hz⟩ := HX.out _ HE2.out
  go_wp2_with fail
  clear r0 r1 r2 r3 r4 r5 hz
  refine (within_any _ _ _ _).mono ?_
  intro w3 hB3
  have HE3 := Lib.hid (Ext.trans HE2.out hB3)
  clear hB3
  obtain ⟨⟨r0, r1, r2, r3, r4, r5⟩, hz⟩ := HX.out _ HE3.out
  go_wp2_with fail
  clear r0 r1 r2 r3 r4 r5 hz
  refine (within_any _ _ _ _).mono ?_
  intro w4 hB4
  have HE4 := Lib.hid (Ext.trans HE3.out hB4)
  clear hB4
  obtain ⟨⟨r0, r1, r2, r3, r4, r5⟩, hz⟩ := HX.out _ HE4.out
  go_wp2_with fail
  go_ret
  exact ⟨rfl, (Ext.trans (ext_allocN w _) HE4.out)⟩
set_option maxRecDepth 100000 in
set_option maxHeartbeats 4000000 in
theorem call_b1 (l : List Cl) (b off c i n : Nat) (tk me ar re be en : Int) (w : World) (hn : n ≤ 100) (hi : i < n)
    (h : Cl.cells w b (off + i * 6) ⟨tk, me, ar, re, be, en⟩) (h1 : wiB tk 0 15 = true) (h2 : wiB me 0 99 = true) (h3 : wiB ar (-1099511627776) 1099511627776 = true) (h4 : wiB re (-1099511627776) 1099511627776 = true) (h5 : decide (be < 0) = false) (h6 : decide (en < -1) = true) :
    Gives Tryd.prog 34 #[.slice (some ⟨b, off, none⟩) n c, .int .i64 ((i : Int))] w (.int .i64 2) := by
  unfold Gives
  obtain ⟨q0, q1, q2, q3, q4, q5⟩ := h
  have HX := Lib.hid (fun W (hW : Ext (w.alloc (cClO ⟨tk, me, ar, re, be, en⟩)) W) => cl_box hW)
  have HE0 := Lib.hid (Below.refl (w.alloc (cClO ⟨tk, me, ar, re, be, en⟩)).heap.size (w.alloc (cClO ⟨tk, me, ar, re, be, en⟩)))
  go_enter Tryd.func34, Tryd.ntmps34
  go_wp2_with fail
  refine (within_any _ _ _ _).mono ?_
  intro w1 hB1
  have HE1 := Lib.hid (Ext.trans HE0.out hB1)
  clear hB1
  obtain ⟨⟨r0, r1, r2, r3, r4, r5⟩, hz⟩ := HX.out _ HE1.out
  go_wp2_with fail
  clear r0 r1 r2 r3 r4 r5 hz
  refine (within_any _ _ _ _).mono ?_
  intro w2 hB2
  have HE2 := Lib.hid (Ext.trans HE1.out hB2)
  clear hB2
  obtain ⟨⟨r0, r1, r2, r3, r4, r5⟩, hz⟩ := HX.out _ HE2.out
  go_wp2_with fail
  clear r0 r1 r2 r3 r4 r5 hz
  refine (within_any _ _ _ _).mono ?_
  intro w3 hB3
  have HE3 := Lib.hid (Ext.trans HE2.out hB3)
  clear hB3
  obtain ⟨⟨r0, r1, r2, r3, r4, r5⟩, hz⟩ := HX.out _ HE3.out
  go_wp2_with fail
  clear r0 r1 r2 r3 r4 r5 hz
  refine (within_any _ _ _ _).mono ?_
  intro w4 hB4
  have HE4 := Lib.hid (Ext.trans HE3.out hB4)
  clear hB4
  obtain ⟨⟨r0, r1, r2, r3, r4, r5⟩, hz⟩ := HX.out _ HE4.out
  go_wp2_with fail
  go_ret
  exact ⟨rfl, (Ext.trans (ext_allocN w _) HE4.out)⟩
set_option maxRecDepth 100000 in
set_option maxHeartbeats 4000000 in
theorem call_b2 (l : List Cl) (b off c i n : Nat) (tk me ar re be en : Int) (w : World) (hn : n ≤ 100) (hi : i < n)
    (h : Cl.cells w b (off + i * 6) ⟨tk, me, ar, re, be, en⟩) (h1 : wiB tk 0 15 = true) (h2 : wiB me 0 99 = true) (h3 : wiB ar (-1099511627776) 1099511627776 = true) (h4 : wiB re (-1099511627776) 1099511627776 = true) (h5 : decide (be < 0) = false) (h6 : decide (en < -1) = false) (h7 : (en == -1) = true) (h8 : (re != 0) = true) :
    Gives Tryd.prog 34 #[.slice (some ⟨b, off, none⟩) n c, .int .i64 ((i : Int))] w (.int .i64 2) := by
  unfold Gives
  obtain ⟨q0, q1, q2, q3, q4, q5⟩ := h
  have HX := Lib.hid (fun W (hW : Ext (w.alloc (cClO ⟨tk, me, ar, re, be, en⟩)) W) => cl_box hW)
  have HE0 := Lib.hid (Below.refl (w.alloc (cClO ⟨tk, me, ar, re, be, en⟩)).heap.size (w.alloc (cClO ⟨tk, me, ar, re, be, en⟩)))
  go_enter Tryd.func34, Tryd.ntmps34
  go_wp2_with fail
  refine (within_any _ _ _ _).mono ?_
  intro w1 hB1
  have HE1 := Lib.hid (Ext.trans HE0.out hB1)
  clear hB1
  obtain ⟨⟨r0, r1, r2, r3, r4, r5⟩, hz⟩ := HX.out _ HE1.out
  go_wp2_with fail
  clear r0 r1 r2 r3 r4 r5 hz
  refine (within_any _ _ _ _).mono ?_
  intro w2 hB2
  have HE2 := Lib.hid (Ext.trans HE1.out hB2)
  clear hB2
  obtain ⟨⟨r0, r1, r2, r3, r4, r5⟩, hz⟩ := HX.out _ HE2.out
  go_wp2_with fail
  clear r0 r1 r2 r3 r4 r5 hz
  refine (within_any _ _ _ _).mono ?_
  intro w3 hB3
  have HE3 := Lib.hid (Ext.trans HE2.out hB3)
  clear hB3
  obtain ⟨⟨r0, r1, r2, r3, r4, r5⟩, hz⟩ := HX.out _ HE3.out
  go_wp2_with fail
  clear r0 r1 r2 r3 r4 r5 hz
  refine (within_any _ _ _ _).mono ?_
  intro w4 hB4
  have HE4 := Lib.hid (Ext.trans HE3.out hB4)
  clear hB4
  obtain ⟨⟨r0, r1, r2, r3, r4, r5⟩, hz⟩ := HX.out _ HE4.out
  go_wp2_with fail
  go_ret
  exact ⟨rfl, (Ext.trans (ext_allocN w _) HE4.out)⟩
set_option maxRecDepth 100000 in
set_option maxHeartbeats 4000000 in
theorem call_p0 (l : List Cl) (b off c i n : Nat) (tk me ar re be en : Int) (w : World) (hn : n ≤ 100) (hi : 0 < n)
    (h : Cl.cells w b (off) ⟨tk, me, ar, re, be, en⟩) (h1 : wiB tk 0 15 = true) (h2 : wiB me 0 99 = true) (h3 : wiB ar (-1099511627776) 1099511627776 = true) (h4 : wiB re (-1099511627776) 1099511627776 = true) (h5 : decide (be < 0) = false) (h6 : decide (en < -1) = false) (h7 : (en == -1) = true) (h7b : (en != -1) = false) (h8 : (re != 0) = false) :
    Gives Tryd.prog 34 #[.slice (some ⟨b, off, none⟩) n c, .int .i64 (0)] w (.int .i64 0) := by
  unfold Gives
  obtain ⟨q0, q1, q2, q3, q4, q5⟩ := h
  have HX := Lib.hid (fun W (hW : Ext (w.alloc (cClO ⟨tk, me, ar, re, be, en⟩)) W) => cl_box hW)
  have HE0 := Lib.hid (Below.refl (w.alloc (cClO ⟨tk, me, ar, re, be, en⟩)).heap.size (w.alloc (cClO ⟨tk, me, ar, re, be, en⟩)))
  go_enter Tryd.func34, Tryd.ntmps34
  go_wp2_with fail
  refine (within_any _ _ _ _).mono ?_
  intro w1 hB1
  have HE1 := Lib.hid (Ext.trans HE0.out hB1)
  clear hB1
  obtain ⟨⟨r0, r1, r2, r3, r4, r5⟩, hz⟩ := HX.out _ HE1.out
  go_wp2_with fail
  clear r0 r1 r2 r3 r4 r5 hz
  refine (within_any _ _ _ _).mono ?_
  intro w2 hB2
  have HE2 := Lib.hid (Ext.trans HE1.out hB2)
  clear hB2
  obtain ⟨⟨r0, r1, r2, r3, r4, r5⟩, hz⟩ := HX.out _ HE2.out
  go_wp2_with fail
  clear r0 r1 r2 r3 r4 r5 hz
  refine (within_any _ _ _ _).mono ?_
  intro w3 hB3
  have HE3 := Lib.hid (Ext.trans HE2.out hB3)
  clear hB3
  obtain ⟨⟨r0, r1, r2, r3, r4, r5⟩, hz⟩ := HX.out _ HE3.out
  go_wp2_with fail
  clear r0 r1 r2 r3 r4 r5 hz
  refine (within_any _ _ _ _).mono ?_
  intro w4 hB4
  have HE4 := Lib.hid (Ext.trans HE3.out hB4)
  clear hB4
  obtain ⟨⟨r0, r1, r2, r3, r4, r5⟩, hz⟩ := HX.out _ HE4.out
  go_wp2_with fail
  go_quiet (fail)
  go_wp2
  go_ret
  exact ⟨rfl, (Ext.trans (ext_allocN w _) HE4.out).drewN'⟩
set_option maxRecDepth 100000 in
set_option maxHeartbeats 4000000 in
theorem call_d0 (l : List Cl) (b off c i n : Nat) (tk me ar re be en : Int) (w : World) (hn : n ≤ 100) (hi : 0 < n)
    (h : Cl.cells w b (off) ⟨tk, me, ar, re, be, en⟩) (h1 : wiB tk 0 15 = true) (h2 : wiB me 0 99 = true) (h3 : wiB ar (-1099511627776) 1099511627776 = true) (h4 : wiB re (-1099511627776) 1099511627776 = true) (h5 : decide (be < 0) = false) (h6 : decide (en < -1) = false) (h7 : (en == -1) = false) (h7b : (en != -1) = true) (h9 : decide (en ≤ be) = true) :
    Gives Tryd.prog 34 #[.slice (some ⟨b, off, none⟩) n c, .int .i64 (0)] w (.int .i64 9) := by
  unfold Gives
  obtain ⟨q0, q1, q2, q3, q4, q5⟩ := h
  have HX := Lib.hid (fun W (hW : Ext (w.alloc (cClO ⟨tk, me, ar, re, be, en⟩)) W) => cl_box hW)
  have HE0 := Lib.hid (Below.refl (w.alloc (cClO ⟨tk, me, ar, re, be, en⟩)).heap.size (w.alloc (cClO ⟨tk, me, ar, re, be, en⟩)))
  go_enter Tryd.func34, Tryd.ntmps34
  go_wp2_with fail
  refine (within_any _ _ _ _).mono ?_
  intro w1 hB1
  have HE1 := Lib.hid (Ext.trans HE0.out hB1)
  clear hB1
  obtain ⟨⟨r0, r1, r2, r3, r4, r5⟩, hz⟩ := HX.out _ HE1.out
  go_wp2_with fail
  clear r0 r1 r2 r3 r4 r5 hz
  refine (within_any _ _ _ _).mono ?_
  intro w2 hB2
  have HE2 := Lib.hid (Ext.trans HE1.out hB2)
  clear hB2
  obtain ⟨⟨r0, r1, r2, r3, r4, r5⟩, hz⟩ := HX.out _ HE2.out
  go_wp2_with fail
  clear r0 r1 r2 r3 r4 r5 hz
  refine (within_any _ _ _ _).mono ?_
  intro w3 hB3
  have HE3 := Lib.hid (Ext.trans HE2.out hB3)
  clear hB3
  obtain ⟨⟨r0, r1, r2, r3, r4, r5⟩, hz⟩ := HX.out _ HE3.out
  go_wp2_with fail
  clear r0 r1 r2 r3 r4 r5 hz
  refine (within_any _ _ _ _).mono ?_
  intro w4 hB4
  have HE4 := Lib.hid (Ext.trans HE3.out hB4)
  clear hB4
  obtain ⟨⟨r0, r1, r2, r3, r4, r5⟩, hz⟩ := HX.out _ HE4.out
  go_wp2_with fail
  go_quiet (fail)
  go_wp2
  go_ret
  exact ⟨rfl, (Ext.trans (ext_allocN w _) HE4.out).drewN'⟩
set_option maxRecDepth 100000 in
set_option maxHeartbeats 4000000 in
theorem call_d1 (l : List Cl) (b off c i n : Nat) (tk me ar re be en : Int) (w : World) (hn : n ≤ 100) (hi : 0 < n)
    (h : Cl.cells w b (off) ⟨tk, me, ar, re, be, en⟩) (h1 : wiB tk 0 15 = true) (h2 : wiB me 0 99 = true) (h3 : wiB ar (-1099511627776) 1099511627776 = true) (h4 : wiB re (-1099511627776) 1099511627776 = true) (h5 : decide (be < 0) = false) (h6 : decide (en < -1) = false) (h7 : (en == -1) = false) (h7b : (en != -1) = true) (h9 : decide (en ≤ be) = false) :
    Gives Tryd.prog 34 #[.slice (some ⟨b, off, none⟩) n c, .int .i64 (0)] w (.int .i64 0) := by
  unfold Gives
  obtain ⟨q0, q1, q2, q3, q4, q5⟩ := h
  have HX := Lib.hid (fun W (hW : Ext (w.alloc (cClO ⟨tk, me, ar, re, be, en⟩)) W) => cl_box hW)
  have HE0 := Lib.hid (Below.refl (w.alloc (cClO ⟨tk, me, ar, re, be, en⟩)).heap.size (w.alloc (cClO ⟨tk, me, ar, re, be, en⟩)))
  go_enter Tryd.func34, Tryd.ntmps34
  go_wp2_with fail
  refine (within_any _ _ _ _).mono ?_
  intro w1 hB1
  have HE1 := Lib.hid (Ext.trans HE0.out hB1)
  clear hB1
  obtain ⟨⟨r0, r1, r2, r3, r4, r5⟩, hz⟩ := HX.out _ HE1.out
  go_wp2_with fail
  clear r0 r1 r2 r3 r4 r5 hz
  refine (within_any _ _ _ _).mono ?_
  intro w2 hB2
  have HE2 := Lib.hid (Ext.trans HE1.out hB2)
  clear hB2
  obtain ⟨⟨r0, r1, r2, r3, r4, r5⟩, hz⟩ := HX.out _ HE2.out
  go_wp2_with fail
  clear r0 r1 r2 r3 r4 r5 hz
  refine (within_any _ _ _ _).mono ?_
  intro w3 hB3
  have HE3 := Lib.hid (Ext.trans HE2.out hB3)
  clear hB3
  obtain ⟨⟨r0, r1, r2, r3, r4, r5⟩, hz⟩ := HX.out _ HE3.out
  go_wp2_with fail
  clear r0 r1 r2 r3 r4 r5 hz
  refine (within_any _ _ _ _).mono ?_
  intro w4 hB4
  have HE4 := Lib.hid (Ext.trans HE3.out hB4)
  clear hB4
  obtain ⟨⟨r0, r1, r2, r3, r4, r5⟩, hz⟩ := HX.out _ HE4.out
  go_wp2_with fail
  go_quiet (fail)
  go_wp2
  go_ret
  exact ⟨rfl, (Ext.trans (ext_allocN w _) HE4.out).drewN'⟩
set_option maxRecDepth 100000 in
set_option maxHeartbeats 4000000 in
theorem call_q0 (l : List Cl) (b off c i n : Nat) (tk me ar re be en : Int) (pb : Int) (w : World) (hn : n ≤ 100) (hi : i + 1 < n)
    (h : Cl.cells w b (off + (i + 1) * 6) ⟨tk, me, ar, re, be, en⟩) (hp : w.cell? ⟨b, off + i * 6 + 4, none⟩ = some (.int .i64 pb)) (h1 : wiB tk 0 15 = true) (h2 : wiB me 0 99 = true) (h3 : wiB ar (-1099511627776) 1099511627776 = true) (h4 : wiB re (-1099511627776) 1099511627776 = true) (h5 : decide (be < 0) = false) (h6 : decide (en < -1) = false) (h7 : (en == -1) = true) (h7b : (en != -1) = false) (h8 : (re != 0) = false) (h10 : decide (be ≤ pb) = true) :
    Gives Tryd.prog 34 #[.slice (some ⟨b, off, none⟩) n c, .int .i64 ((i : Int) + 1)] w (.int .i64 9) := by
  unfold Gives
  obtain ⟨q0, q1, q2, q3, q4, q5⟩ := h
  have HX := Lib.hid (fun W (hW : Ext (w.alloc (cClO ⟨tk, me, ar, re, be, en⟩)) W) => cl_box hW)
  have HE0 := Lib.hid (Below.refl (w.alloc (cClO ⟨tk, me, ar, re, be, en⟩)).heap.size (w.alloc (cClO ⟨tk, me, ar, re, be, en⟩)))
  have HP := Lib.hid (fun W (hW : Ext (w.alloc (cClO ⟨tk, me, ar, re, be, en⟩)) W) => ((Ext.trans (ext_allocN w _) hW).below.cell (cell_lt hp)).trans hp)
  clear hp
  have k1 : IntKind.i64.wrap ((i : Int) + 1) = (i : Int) + 1 := IntWalk.i64_in _ (by omega)
  have k2 : ((i : Int) + 1).toNat = i + 1 := by omega
  have k3 : (0 : Int) ≤ (i : Int) + 1 := by omega
  have k4 : (i : Int) + 1 < (n : Int) := by omega
  have k5 : (0 : Int) < (i : Int) + 1 := by omega
  have k6 : (i : Int) + 1 - 1 = (i : Int) := by omega
  have k7 : (i : Int) < (n : Int) := by omega
  have k8 : (0 : Int) ≤ (i : Int) := by omega
  go_enter Tryd.func34, Tryd.ntmps34
  go_wp2_with fail
  refine (within_any _ _ _ _).mono ?_
  intro w1 hB1
  have HE1 := Lib.hid (Ext.trans HE0.out hB1)
  clear hB1
  obtain ⟨⟨r0, r1, r2, r3, r4, r5⟩, hz⟩ := HX.out _ HE1.out
  go_wp2_with fail
  clear r0 r1 r2 r3 r4 r5 hz
  refine (within_any _ _ _ _).mono ?_
  intro w2 hB2
  have HE2 := Lib.hid (Ext.trans HE1.out hB2)
  clear hB2
  obtain ⟨⟨r0, r1, r2, r3, r4, r5⟩, hz⟩ := HX.out _ HE2.out
  go_wp2_with fail
  clear r0 r1 r2 r3 r4 r5 hz
  refine (within_any _ _ _ _).mono ?_
  intro w3 hB3
  have HE3 := Lib.hid (Ext.trans HE2.out hB3)
  clear hB3
  obtain ⟨⟨r0, r1, r2, r3, r4, r5⟩, hz⟩ := HX.out _ HE3.out
  go_wp2_with fail
  clear r0 r1 r2 r3 r4 r5 hz
  refine (within_any _ _ _ _).mono ?_
  intro w4 hB4
  have HE4 := Lib.hid (Ext.trans HE3.out hB4)
  clear hB4
  obtain ⟨⟨r0, r1, r2, r3, r4, r5⟩, hz⟩ := HX.out _ HE4.out
  have p4 := HP.out _ HE4.out
  go_wp2_with fail
  go_quiet (fail)
  go_wp2
  go_ret
  exact ⟨rfl, (Ext.trans (ext_allocN w _) HE4.out).drewN'⟩
set_option maxRecDepth 100000 in
set_option maxHeartbeats 4000000 in
theorem call_q1 (l : List Cl) (b off c i n : Nat) (tk me ar re be en : Int) (pb : Int) (w : World) (hn : n ≤ 100) (hi : i + 1 < n)
    (h : Cl.cells w b (off + (i + 1) * 6) ⟨tk, me, ar, re, be, en⟩) (hp : w.cell? ⟨b, off + i * 6 + 4, none⟩ = some (.int .i64 pb)) (h1 : wiB tk 0 15 = true) (h2 : wiB me 0 99 = true) (h3 : wiB ar (-1099511627776) 1099511627776 = true) (h4 : wiB re (-1099511627776) 1099511627776 = true) (h5 : decide (be < 0) = false) (h6 : decide (en < -1) = false) (h7 : (en == -1) = true) (h7b : (en != -1) = false) (h8 : (re != 0) = false) (h10 : decide (be ≤ pb) = false) :
    Gives Tryd.prog 34 #[.slice (some ⟨b, off, none⟩) n c, .int .i64 ((i : Int) + 1)] w (.int .i64 0) := by
  unfold Gives
  obtain ⟨q0, q1, q2, q3, q4, q5⟩ := h
  have HX := Lib.hid (fun W (hW : Ext (w.alloc (cClO ⟨tk, me, ar, re, be, en⟩)) W) => cl_box hW)
  have HE0 := Lib.hid (Below.refl (w.alloc (cClO ⟨tk, me, ar, re, be, en⟩)).heap.size (w.alloc (cClO ⟨tk, me, ar, re, be, en⟩)))
  have HP := Lib.hid (fun W (hW : Ext (w.alloc (cClO ⟨tk, me, ar, re, be, en⟩)) W) => ((Ext.trans (ext_allocN w _) hW).below.cell (cell_lt hp)).trans hp)
  clear hp
  have k1 : IntKind.i64.wrap ((i : Int) + 1) = (i : Int) + 1 := IntWalk.i64_in _ (by omega)
  have k2 : ((i : Int) + 1).toNat = i + 1 := by omega
  have k3 : (0 : Int) ≤ (i : Int) + 1 := by omega
  have k4 : (i : Int) + 1 < (n : Int) := by omega
  have k5 : (0 : Int) < (i : Int) + 1 := by omega
  have k6 : (i : Int) + 1 - 1 = (i : Int) := by omega
  have k7 : (i : Int) < (n : Int) := by omega
  have k8 : (0 : Int) ≤ (i : Int) := by omega
  go_enter Tryd.func34, Tryd.ntmps34
  go_wp2_with fail
  refine (within_any _ _ _ _).mono ?_
  intro w1 hB1
  have HE1 := Lib.hid (Ext.trans HE0.out hB1)
  clear hB1
  obtain ⟨⟨r0, r1, r2, r3, r4, r5⟩, hz⟩ := HX.out _ HE1.out
  go_wp2_with fail
  clear r0 r1 r2 r3 r4 r5 hz
  refine (within_any _ _ _ _).mono ?_
  intro w2 hB2
  have HE2 := Lib.hid (Ext.trans HE1.out hB2)
  clear hB2
  obtain ⟨⟨r0, r1, r2, r3, r4, r5⟩, hz⟩ := HX.out _ HE2.out
  go_wp2_with fail
  clear r0 r1 r2 r3 r4 r5 hz
  refine (within_any _ _ _ _).mono ?_
  intro w3 hB3
  have HE3 := Lib.hid (Ext.trans HE2.out hB3)
  clear hB3
  obtain ⟨⟨r0, r1, r2, r3, r4, r5⟩, hz⟩ := HX.out _ HE3.out
  go_wp2_with fail
  clear r0 r1 r2 r3 r4 r5 hz
  refine (within_any _ _ _ _).mono ?_
  intro w4 hB4
  have HE4 := Lib.hid (Ext.trans HE3.out hB4)
  clear hB4
  obtain ⟨⟨r0, r1, r2, r3, r4, r5⟩, hz⟩ := HX.out _ HE4.out
  have p4 := HP.out _ HE4.out
  go_wp2_with fail
  go_quiet (fail)
  go_wp2
  go_ret
  exact ⟨rfl, (Ext.trans (ext_allocN w _) HE4.out).drewN'⟩
set_option maxRecDepth 100000 in
set_option maxHeartbeats 4000000 in
theorem call_r0 (l : List Cl) (b off c i n : Nat) (tk me ar re be en : Int) (pb : Int) (w : World) (hn : n ≤ 100) (hi : i + 1 < n)
    (h : Cl.cells w b (off + (i + 1) * 6) ⟨tk, me, ar, re, be, en⟩) (hp : w.cell? ⟨b, off + i * 6 + 4, none⟩ = some (.int .i64 pb)) (h1 : wiB tk 0 15 = true) (h2 : wiB me 0 99 = true) (h3 : wiB ar (-1099511627776) 1099511627776 = true) (h4 : wiB re (-1099511627776) 1099511627776 = true) (h5 : decide (be < 0) = false) (h6 : decide (en < -1) = false) (h7 : (en == -1) = false) (h7b : (en != -1) = true) (h10 : decide (be ≤ pb) = true) :
    Gives Tryd.prog 34 #[.slice (some ⟨b, off, none⟩) n c, .int .i64 ((i : Int) + 1)] w (.int .i64 9) := by
  unfold Gives
  obtain ⟨q0, q1, q2, q3, q4, q5⟩ := h
  have HX := Lib.hid (fun W (hW : Ext (w.alloc (cClO ⟨tk, me, ar, re, be, en⟩)) W) => cl_box hW)
  have HE0 := Lib.hid (Below.refl (w.alloc (cClO ⟨tk, me, ar, re, be, en⟩)).heap.size (w.alloc (cClO ⟨tk, me, ar, re, be, en⟩)))
  have HP := Lib.hid (fun W (hW : Ext (w.alloc (cClO ⟨tk, me, ar, re, be, en⟩)) W) => ((Ext.trans (ext_allocN w _) hW).below.cell (cell_lt hp)).trans hp)
  clear hp
  have k1 : IntKind.i64.wrap ((i : Int) + 1) = (i : Int) + 1 := IntWalk.i64_in _ (by omega)
  have k2 : ((i : Int) + 1).toNat = i + 1 := by omega
  have k3 : (0 : Int) ≤ (i : Int) + 1 := by omega
  have k4 : (i : Int) + 1 < (n : Int) := by omega
  have k5 : (0 : Int) < (i : Int) + 1 := by omega
  have k6 : (i : Int) + 1 - 1 = (i : Int) := by omega
  have k7 : (i : Int) < (n : Int) := by omega
  have k8 : (0 : Int) ≤ (i : Int) := by omega
  go_enter Tryd.func34, Tryd.ntmps34
  go_wp2_with fail
  refine (within_any _ _ _ _).mono ?_
  intro w1 hB1
  have HE1 := Lib.hid (Ext.trans HE0.out hB1)
  clear hB1
  obtain ⟨⟨r0, r1, r2, r3, r4, r5⟩, hz⟩ := HX.out _ HE1.out
  go_wp2_with fail
  clear r0 r1 r2 r3 r4 r5 hz
  refine (within_any _ _ _ _).mono ?_
  intro w2 hB2
  have HE2 := Lib.hid (Ext.trans HE1.out hB2)
  clear hB2
  obtain ⟨⟨r0, r1, r2, r3, r4, r5⟩, hz⟩ := HX.out _ HE2.out
  go_wp2_with fail
  clear r0 r1 r2 r3 r4 r5 hz
  refine (within_any _ _ _ _).mono ?_
  intro w3 hB3
  have HE3 := Lib.hid (Ext.trans HE2.out hB3)
  clear hB3
  obtain ⟨⟨r0, r1, r2, r3, r4, r5⟩, hz⟩ := HX.out _ HE3.out
  go_wp2_with fail
  clear r0 r1 r2 r3 r4 r5 hz
  refine (within_any _ _ _ _).mono ?_
  intro w4 hB4
  have HE4 := Lib.hid (Ext.trans HE3.out hB4)
  clear hB4
  obtain ⟨⟨r0, r1, r2, r3, r4, r5⟩, hz⟩ := HX.out _ HE4.out
  have p4 := HP.out _ HE4.out
  go_wp2_with fail
  go_quiet (fail)
  go_wp2
  go_ret
  exact ⟨rfl, (Ext.trans (ext_allocN w _) HE4.out).drewN'⟩
set_option maxRecDepth 100000 in
set_option maxHeartbeats 4000000 in
theorem call_r1 (l : List Cl) (b off c i n : Nat) (tk me ar re be en : Int) (pb : Int) (w : World) (hn : n ≤ 100) (hi : i + 1 < n)
    (h : Cl.cells w b (off + (i + 1) * 6) ⟨tk, me, ar, re, be, en⟩) (hp : w.cell? ⟨b, off + i * 6 + 4, none⟩ = some (.int .i64 pb)) (h1 : wiB tk 0 15 = true) (h2 : wiB me 0 99 = true) (h3 : wiB ar (-1099511627776) 1099511627776 = true) (h4 : wiB re (-1099511627776) 1099511627776 = true) (h5 : decide (be < 0) = false) (h6 : decide (en < -1) = false) (h7 : (en == -1) = false) (h7b : (en != -1) = true) (h10 : decide (be ≤ pb) = false) (h9 : decide (en ≤ be) = true) :
    Gives Tryd.prog 34 #[.slice (some ⟨b, off, none⟩) n c, .int .i64 ((i : Int) + 1)] w (.int .i64 9) := by
  unfold Gives
  obtain ⟨q0, q1, q2, q3, q4, q5⟩ := h
  have HX := Lib.hid (fun W (hW : Ext (w.alloc (cClO ⟨tk, me, ar, re, be, en⟩)) W) => cl_box hW)
  have HE0 := Lib.hid (Below.refl (w.alloc (cClO ⟨tk, me, ar, re, be, en⟩)).heap.size (w.alloc (cClO ⟨tk, me, ar, re, be, en⟩)))
  have HP := Lib.hid (fun W (hW : Ext (w.alloc (cClO ⟨tk, me, ar, re, be, en⟩)) W) => ((Ext.trans (ext_allocN w _) hW).below.cell (cell_lt hp)).trans hp)
  clear hp
  have k1 : IntKind.i64.wrap ((i : Int) + 1) = (i : Int) + 1 := IntWalk.i64_in _ (by omega)
  have k2 : ((i : Int) + 1).toNat = i + 1 := by omega
  have k3 : (0 : Int) ≤ (i : Int) + 1 := by omega
  have k4 : (i : Int) + 1 < (n : Int) := by omega
  have k5 : (0 : Int) < (i : Int) + 1 := by omega
  have k6 : (i : Int) + 1 - 1 = (i : Int) := by omega
  have k7 : (i : Int) < (n : Int) := by omega
  have k8 : (0 : Int) ≤ (i : Int) := by omega
  go_enter Tryd.func34, Tryd.ntmps34
  go_wp2_with fail
  refine (within_any _ _ _ _).mono ?_
  intro w1 hB1
  have HE1 := Lib.hid (Ext.trans HE0.out hB1)
  clear hB1
  obtain ⟨⟨r0, r1, r2, r3, r4, r5⟩, hz⟩ := HX.out _ HE1.out
  go_wp2_with fail
  clear r0 r1 r2 r3 r4 r5 hz
  refine (within_any _ _ _ _).mono ?_
  intro w2 hB2
  have HE2 := Lib.hid (Ext.trans HE1.out hB2)
  clear hB2
  obtain ⟨⟨r0, r1, r2, r3, r4, r5⟩, hz⟩ := HX.out _ HE2.out
  go_wp2_with fail
  clear r0 r1 r2 r3 r4 r5 hz
  refine (within_any _ _ _ _).mono ?_
  intro w3 hB3
  have HE3 := Lib.hid (Ext.trans HE2.out hB3)
  clear hB3
  obtain ⟨⟨r0, r1, r2, r3, r4, r5⟩, hz⟩ := HX.out _ HE3.out
  go_wp2_with fail
  clear r0 r1 r2 r3 r4 r5 hz
  refine (within_any _ _ _ _).mono ?_
  intro w4 hB4
  have HE4 := Lib.hid (Ext.trans HE3.out hB4)
  clear hB4
  obtain ⟨⟨r0, r1, r2, r3, r4, r5⟩, hz⟩ := HX.out _ HE4.out
  have p4 := HP.out _ HE4.out
  go_wp2_with fail
  go_quiet (fail)
  go_wp2
  go_ret
  exact ⟨rfl, (Ext.trans (ext_allocN w _) HE4.out).drewN'⟩
set_option maxRecDepth 100000 in
set_option maxHeartbeats 4000000 in
theorem call_r2 (l : List Cl) (b off c i n : Nat) (tk me ar re be en : Int) (pb : Int) (w : World) (hn : n ≤ 100) (hi : i + 1 < n)
    (h : Cl.cells w b (off + (i + 1) * 6) ⟨tk, me, ar, re, be, en⟩) (hp : w.cell? ⟨b, off + i * 6 + 4, none⟩ = some (.int .i64 pb)) (h1 : wiB tk 0 15 = true) (h2 : wiB me 0 99 = true) (h3 : wiB ar (-1099511627776) 1099511627776 = true) (h4 : wiB re (-1099511627776) 1099511627776 = true) (h5 : decide (be < 0) = false) (h6 : decide (en < -1) = false) (h7 : (en == -1) = false) (h7b : (en != -1) = true) (h10 : decide (be ≤ pb) = false) (h9 : decide (en ≤ be) = false) :
    Gives Tryd.prog 34 #[.slice (some ⟨b, off, none⟩) n c, .int .i64 ((i : Int) + 1)] w (.int .i64 0) := by
  unfold Gives
  obtain ⟨q0, q1, q2, q3, q4, q5⟩ := h
  have HX := Lib.hid (fun W (hW : Ext (w.alloc (cClO ⟨tk, me, ar, re, be, en⟩)) W) => cl_box hW)
  have HE0 := Lib.hid (Below.refl (w.alloc (cClO ⟨tk, me, ar, re, be, en⟩)).heap.size (w.alloc (cClO ⟨tk, me, ar, re, be, en⟩)))
  have HP := Lib.hid (fun W (hW : Ext (w.alloc (cClO ⟨tk, me, ar, re, be, en⟩)) W) => ((Ext.trans (ext_allocN w _) hW).below.cell (cell_lt hp)).trans hp)
  clear hp
  have k1 : IntKind.i64.wrap ((i : Int) + 1) = (i : Int) + 1 := IntWalk.i64_in _ (by omega)
  have k2 : ((i : Int) + 1).toNat = i + 1 := by omega
  have k3 : (0 : Int) ≤ (i : Int) + 1 := by omega
  have k4 : (i : Int) + 1 < (n : Int) := by omega
  have k5 : (0 : Int) < (i : Int) + 1 := by omega
  have k6 : (i : Int) + 1 - 1 = (i : Int) := by omega
  have k7 : (i : Int) < (n : Int) := by omega
  have k8 : (0 : Int) ≤ (i : Int) := by omega
  go_enter Tryd.func34, Tryd.ntmps34
  go_wp2_with fail
  refine (within_any _ _ _ _).mono ?_
  intro w1 hB1
  have HE1 := Lib.hid (Ext.trans HE0.out hB1)
  clear hB1
  obtain ⟨⟨r0, r1, r2, r3, r4, r5⟩, hz⟩ := HX.out _ HE1.out
  go_wp2_with fail
  clear r0 r1 r2 r3 r4 r5 hz
  refine (within_any _ _ _ _).mono ?_
  intro w2 hB2
  have HE2 := Lib.hid (Ext.trans HE1.out hB2)
  clear hB2
  obtain ⟨⟨r0, r1, r2, r3, r4, r5⟩, hz⟩ := HX.out _ HE2.out
  go_wp2_with fail
  clear r0 r1 r2 r3 r4 r5 hz
  refine (within_any _ _ _ _).mono ?_
  intro w3 hB3
  have HE3 := Lib.hid (Ext.trans HE2.out hB3)
  clear hB3
  obtain ⟨⟨r0, r1, r2, r3, r4, r5⟩, hz⟩ := HX.out _ HE3.out
  go_wp2_with fail
  clear r0 r1 r2 r3 r4 r5 hz
  refine (within_any _ _ _ _).mono ?_
  intro w4 hB4
  have HE4 := Lib.hid (Ext.trans HE3.out hB4)
  clear hB4
  obtain ⟨⟨r0, r1, r2, r3, r4, r5⟩, hz⟩ := HX.out _ HE4.out
  have p4 := HP.out _ HE4.out
  go_wp2_with fail
  go_quiet (fail)
  go_wp2
  go_ret
  exact ⟨rfl, (Ext.trans (ext_allocN w _) HE4.out).drewN'⟩
theorem call_any (l : List Cl) (a : Option Addr) (c i : Nat) (w : World) (hi : i < l.length) (h : HsAt w a l) (hl : l.length ≤ 100) :
    Gives Tryd.prog 34 #[.slice a l.length c, .int .i64 (i : Int)] w (.int .i64 (callE l i)) := by
  obtain ⟨b, off, rfl, hc⟩ := h i hi
  rw [callE_at hi, clE_of]
  have hp : ∀ j, i = j + 1 → w.cell? ⟨b, off + j * 6 + 4, none⟩ = some (.int .i64 ((l[i - 1]?.map (·.beg)).getD 0)) := by
    rintro j rfl
    obtain ⟨b', off', e, hd⟩ := h j (by omega)
    obtain ⟨rfl, rfl⟩ : b = b' ∧ off = off' := by injection e with e; injection e with e1 e2; exact ⟨e1, e2⟩
    have := hd.2.2.2.2.1
    rw [this, Nat.add_sub_cancel, List.getElem?_eq_getElem (by omega)]
    rfl
  generalize (l[i - 1]?.map (·.beg)).getD 0 = pb at *
  generalize l[i] = x at *
  generalize l.length = n at *
  obtain ⟨tk, me, ar, re, be, en⟩ := x
  dsimp only at *
  cases h1 : wiB tk 0 15 with
  | false => rw [if_pos rfl]; exact call_w0 l b off c i n tk me ar re be en w hl hi hc h1
  | true =>
  rw [if_neg (by simp)]
  cases h2 : wiB me 0 99 with
  | false => rw [if_pos rfl]; exact call_w1 l b off c i n tk me ar re be en w hl hi hc h1 h2
  | true =>
  rw [if_neg (by simp)]
  cases h3 : wiB ar (-1099511627776) 1099511627776 with
  | false => rw [if_pos rfl]; exact call_w2 l b off c i n tk me ar re be en w hl hi hc h1 h2 h3
  | true =>
  rw [if_neg (by simp)]
  cases h4 : wiB re (-1099511627776) 1099511627776 with
  | false => rw [if_pos rfl]; exact call_w3 l b off c i n tk me ar re be en w hl hi hc h1 h2 h3 h4
  | true =>
  rw [if_neg (by simp)]
  by_cases h5 : be < 0
  · rw [if_pos h5]; exact call_b0 l b off c i n tk me ar re be en w hl hi hc h1 h2 h3 h4 (by simpa using h5)
  rw [if_neg h5]
  by_cases h6 : en < -1
  · rw [if_pos h6]; exact call_b1 l b off c i n tk me ar re be en w hl hi hc h1 h2 h3 h4 (by simpa using h5) (by simpa using h6)
  rw [if_neg h6]
  by_cases h7 : en = -1
  · subst h7
    by_cases h8 : re = 0
    · subst h8
      rw [if_neg (by simp)]
      cases i with
      | zero => rw [if_neg (by omega), if_neg (by omega)]; exact call_p0 l b off c 0 n tk me ar 0 be (-1) w hl hi (by simpa using hc) h1 h2 h3 h4 (by simpa using h5) (by simp) (by simp) (by simp) (by simp)
      | succ i =>
        by_cases h10 : be ≤ pb
        · rw [if_pos ⟨by omega, h10⟩]; exact call_q0 l b off c i n tk me ar 0 be (-1) pb w hl hi hc (hp i rfl) h1 h2 h3 h4 (by simpa using h5) (by simp) (by simp) (by simp) (by simp) (by simpa using h10)
        · rw [if_neg (fun h => h10 h.2), if_neg (by omega)]; exact call_q1 l b off c i n tk me ar 0 be (-1) pb w hl hi hc (hp i rfl) h1 h2 h3 h4 (by simpa using h5) (by simp) (by simp) (by simp) (by simp) (by simpa using h10)
    · rw [if_pos ⟨rfl, h8⟩]; exact call_b2 l b off c i n tk me ar re be (-1) w hl hi hc h1 h2 h3 h4 (by simpa using h5) (by simp) (by simp) (by simpa using h8)
  · rw [if_neg (fun h => h7 h.1)]
    have g7 : (en == -1) = false := by simpa using h7
    have g7b : (en != -1) = true := by simpa using h7
    have g5 : decide (be < 0) = false := by simpa using h5
    have g6 : decide (en < -1) = false := by simpa using h6
    cases i with
    | zero =>
      rw [if_neg (by omega)]
      by_cases h9 : en ≤ be
      · rw [if_pos ⟨h7, h9⟩]; exact call_d0 l b off c 0 n tk me ar re be en w hl hi (by simpa using hc) h1 h2 h3 h4 g5 g6 g7 g7b (by simpa using h9)
      · rw [if_neg (fun h => h9 h.2)]; exact call_d1 l b off c 0 n tk me ar re be en w hl hi (by simpa using hc) h1 h2 h3 h4 g5 g6 g7 g7b (by simpa using h9)
    | succ i =>
      by_cases h10 : be ≤ pb
      · rw [if_pos ⟨by omega, h10⟩]; exact call_r0 l b off c i n tk me ar re be en pb w hl hi hc (hp i rfl) h1 h2 h3 h4 g5 g6 g7 g7b (by simpa using h10)
      · rw [if_neg (fun h => h10 h.2)]
        by_cases h9 : en ≤ be
        · rw [if_pos ⟨h7, h9⟩]; exact call_r1 l b off c i n tk me ar re be en pb w hl hi hc (hp i rfl) h1 h2 h3 h4 g5 g6 g7 g7b (by simpa using h10) (by simpa using h9)
        · rw [if_neg (fun h => h9 h.2)]; exact call_r2 l b off c i n tk me ar re be en pb w hl hi hc (hp i rfl) h1 h2 h3 h4 g5 g6 g7 g7b (by simpa using h10) (by simpa using h9)

end Go.Proofs.YtmbkjccckmlacaaDoor

namespace Go.Proofs.YtmbkjccckmlacaaDoor
open Go.RowKit
set_option linter.unusedVariables false
set_option linter.unusedSimpArgs false

def psC (x : Cl) : List Int := if x.en = -1 then [x.beg] else [x.beg, x.en]
theorem psH_flat (l : List Cl) : psH l = l.flatMap psC := rfl
theorem psH_take {l : List Cl} {j : Nat} (h : j < l.length) : psH (l.take (j + 1)) = psH (l.take j) ++ psC l[j] := by
  rw [psH_flat, psH_flat, List.take_succ_eq_append_getElem h, List.flatMap_append]
  simp
theorem psC_len (x : Cl) : (psC x).length = if x.en = -1 then 1 else 2 := by unfold psC; split <;> rfl
/-- the positions that are taken, of n -/
def seenL (ps : List Int) (n : Nat) : List Bool := (List.range n).map fun j : Nat => decide (((j : Nat) : Int) ∈ ps)
def PsOk (ps : List Int) (n : Nat) : Prop := (∀ p ∈ ps, p < n) ∧ ps.Nodup
theorem PsOk.nil (n : Nat) : PsOk [] n := ⟨by simp, by simp⟩
theorem PsOk.snoc {ps : List Int} {n k : Nat} (h : PsOk ps n) (hk : k < n) (hn : (k : Int) ∉ ps) : PsOk (ps ++ [(k : Int)]) n := by
  refine ⟨fun p hp => ?_, ?_⟩
  · rcases List.mem_append.1 hp with hp | hp
    · exact h.1 p hp
    · rw [List.mem_singleton.1 hp]; omega
  · rw [List.nodup_append]
    refine ⟨h.2, by simp, fun a ha b hb => ?_⟩
    rw [List.mem_singleton.1 hb]
    rintro rfl; exact hn ha
theorem PsOk.pre {ps qs : List Int} {n : Nat} (h : PsOk (ps ++ qs) n) : PsOk ps n := ⟨fun p hp => h.1 p (List.mem_append_left _ hp), (List.nodup_append.1 h.2).1⟩
theorem PsOk.big {ps qs : List Int} {n : Nat} {k : Int} (hk : ¬ k < n) : ¬ PsOk (ps ++ k :: qs) n := fun h => hk (h.1 k (by simp))
theorem PsOk.twice {ps qs : List Int} {n : Nat} {k : Int} (hk : k ∈ ps) : ¬ PsOk (ps ++ k :: qs) n := fun h => by
  have := (List.nodup_append.1 h.2).2.2 k hk k (by simp)
  exact this rfl
theorem seenL_len (ps : List Int) (n : Nat) : (seenL ps n).length = n := by simp [seenL]
theorem seenL_get (ps : List Int) (n j : Nat) (h : j < n) : (seenL ps n)[j]? = some (decide ((j : Int) ∈ ps)) := by simp [seenL, h]
theorem seenL_set (ps : List Int) (n k : Nat) : (seenL ps n).set k true = seenL (ps ++ [(k : Int)]) n := by
  apply List.ext_getElem?
  intro j
  rw [List.getElem?_set]
  by_cases hj : j < n
  · rw [seenL_get _ _ _ hj, seenL_get _ _ _ hj, seenL_len]
    by_cases hk : k = j
    · subst hk; simp [hj]
    · have : ¬ (j : Int) = (k : Int) := by omega
      simp [hk, this]
  · rw [List.getElem?_eq_none (by rw [seenL_len]; omega), List.getElem?_eq_none (by rw [seenL_len]; omega)]
    simp [seenL_len]; omega
/-- block g holds these booleans -/
def BoolsAt (w : World) (g : Nat) (l : List Bool) : Prop := w.heap[g]? = some (.cells (l.map Value.bool).toArray 4 (0, 0))
theorem BoolsAt.cell {w : World} {g : Nat} {l : List Bool} (h : BoolsAt w g l) {j : Nat} {b : Bool} (hj : l[j]? = some b) : w.cell? ⟨g, j, none⟩ = some (.bool b) := cell_of h (by simp [hj])
theorem BoolsAt.ext {w W : World} {g : Nat} {l : List Bool} (h : BoolsAt w g l) (hE : Ext w W) : BoolsAt W g l := (hE.below.block g (lt_of_block h)).trans h
theorem BoolsAt.set {w : World} {g : Nat} {l : List Bool} (h : BoolsAt w g l) (k : Nat) (b : Bool) : BoolsAt (w.setCell ⟨g, k, none⟩ (.bool b)) g (l.set k b) := by
  have := ((Turn.refl h).setCell (i := k) (.bool b)).here
  unfold BoolsAt
  rw [this]
  simp
theorem take_yes (A B g n k : Nat) (w : World) (hA : w.cell? ⟨A, 0, none⟩ = some (.int .i64 (n : Int))) (hB : w.cell? ⟨B, 0, none⟩ = some (.slice (some ⟨g, 0, none⟩) n n)) (hk : k < n) (hn : n ≤ 1000) (hs : w.cell? ⟨g, k, none⟩ = some (.bool false)) (hf : w.frozen? ⟨g, k, none⟩ = false) :
    Calls Tryd.prog 62 #[.int .i64 (k : Int), .pointer (some ⟨A, 0, none⟩), .pointer (some ⟨B, 0, none⟩)] w fun e w' => e = .returned (.bool true) ∧ w' = w.setCell ⟨g, k, none⟩ (.bool true) := by
  have d1 : decide ((n : Int) ≤ (k : Int)) = false := by simp; omega
  have d2 : decide (n ≤ k) = false := by simp; omega
  have k1 : (0 : Int) ≤ (k : Int) := by omega
  have k2 : (k : Int) < (n : Int) := by omega
  go_enter Tryd.func62, Tryd.ntmps62
  go_wp2
  go_ret
  exact ⟨rfl, rfl⟩
theorem take_big (A B g n k : Nat) (w : World) (hA : w.cell? ⟨A, 0, none⟩ = some (.int .i64 (n : Int))) (hk : ¬ k < n) :
    Calls Tryd.prog 62 #[.int .i64 (k : Int), .pointer (some ⟨A, 0, none⟩), .pointer (some ⟨B, 0, none⟩)] w fun e w' => e = .returned (.bool false) ∧ w' = w := by
  have d1 : decide ((n : Int) ≤ (k : Int)) = true := by simp; omega
  have d2 : decide (n ≤ k) = true := by simp; omega
  go_enter Tryd.func62, Tryd.ntmps62
  go_wp2
  go_ret
  exact ⟨rfl, rfl⟩
theorem take_seen (A B g n k : Nat) (w : World) (hA : w.cell? ⟨A, 0, none⟩ = some (.int .i64 (n : Int))) (hB : w.cell? ⟨B, 0, none⟩ = some (.slice (some ⟨g, 0, none⟩) n n)) (hk : k < n) (hn : n ≤ 1000) (hs : w.cell? ⟨g, k, none⟩ = some (.bool true)) :
    Calls Tryd.prog 62 #[.int .i64 (k : Int), .pointer (some ⟨A, 0, none⟩), .pointer (some ⟨B, 0, none⟩)] w fun e w' => e = .returned (.bool false) ∧ w' = w := by
  have d1 : decide ((n : Int) ≤ (k : Int)) = false := by simp; omega
  have d2 : decide (n ≤ k) = false := by simp; omega
  have k1 : (0 : Int) ≤ (k : Int) := by omega
  have k2 : (k : Int) < (n : Int) := by omega
  go_enter Tryd.func62, Tryd.ntmps62
  go_wp2
  go_ret
  exact ⟨rfl, rfl⟩
/-- take, in one: is a position free -/
theorem take_any {A B g n : Nat} {k : Int} {ps : List Int} (w : World) (hA : w.cell? ⟨A, 0, none⟩ = some (.int .i64 (n : Int))) (hB : w.cell? ⟨B, 0, none⟩ = some (.slice (some ⟨g, 0, none⟩) n n)) (hn : n ≤ 1000) (hS : BoolsAt w g (seenL ps n)) (hk : 0 ≤ k) :
    Calls Tryd.prog 62 #[.int .i64 k, .pointer (some ⟨A, 0, none⟩), .pointer (some ⟨B, 0, none⟩)] w fun e w' =>
      e = .returned (.bool (decide (k < n ∧ k ∉ ps))) ∧ ((k < n ∧ k ∉ ps ∧ w' = w.setCell ⟨g, k.toNat, none⟩ (.bool true)) ∨ (¬ (k < n ∧ k ∉ ps) ∧ w' = w)) := by
  obtain ⟨j, rfl⟩ : ∃ j : Nat, k = (j : Int) := ⟨k.toNat, by omega⟩
  by_cases h1 : j < n
  · by_cases h2 : (j : Int) ∈ ps
    · refine (take_seen A B g n j w hA hB h1 hn (hS.cell (by rw [seenL_get _ _ _ h1]; simp [h2]))).mono ?_
      rintro e w' ⟨rfl, rfl⟩
      exact ⟨by simp [h2], .inr ⟨fun h => h.2 h2, rfl⟩⟩
    · refine (take_yes A B g n j w hA hB h1 hn (hS.cell (by rw [seenL_get _ _ _ h1]; simp [h2])) (free_of hS)).mono ?_
      rintro e w' ⟨rfl, rfl⟩
      exact ⟨by simp [h2, h1], .inl ⟨by omega, h2, by simp⟩⟩
  · refine (take_big A B g n j w hA h1).mono ?_
    rintro e w' ⟨rfl, rfl⟩
    exact ⟨by simp; omega, .inr ⟨fun h => h1 (by omega), rfl⟩⟩
end Go.Proofs.YtmbkjccckmlacaaDoor

namespace Go.Proofs.YtmbkjccckmlacaaDoor
open Go.RowKit
set_option linter.unusedVariables false
set_option linter.unusedSimpArgs false

instance (ps : List Int) (n : Nat) : Decidable (PsOk ps n) := by unfold PsOk; infer_instance
abbrev seenO (ps : List Int) (n : Nat) : Obj := .cells ((seenL ps n).map Value.bool).toArray 4 (0, 0)
theorem take_t {A B g n : Nat} {k : Int} {ps : List Int} (w : World) (hA : w.cell? ⟨A, 0, none⟩ = some (.int .i64 (n : Int))) (hB : w.cell? ⟨B, 0, none⟩ = some (.slice (some ⟨g, 0, none⟩) n n)) (hn : n ≤ 1000) (hS : BoolsAt w g (seenL ps n)) (hk : 0 ≤ k) (h1 : k < n) (h2 : k ∉ ps) :
    Calls Tryd.prog 62 #[.int .i64 k, .pointer (some ⟨A, 0, none⟩), .pointer (some ⟨B, 0, none⟩)] w fun e w' => e = .returned (.bool true) ∧ Turn g (seenO (ps ++ [k]) n) w w' := by
  refine (take_any w hA hB hn hS hk).mono ?_
  rintro e w' ⟨rfl, h | h⟩
  · obtain ⟨-, -, rfl⟩ := h
    refine ⟨by simp [h1, h2], ?_⟩
    have hT := (Turn.refl hS).setCell (i := k.toNat) (.bool true)
    have e : ((seenL ps n).map Value.bool).toArray.setIfInBounds k.toNat (.bool true) = ((seenL (ps ++ [k]) n).map Value.bool).toArray := by
      obtain ⟨m, rfl⟩ : ∃ m : Nat, k = (m : Int) := ⟨k.toNat, by omega⟩
      rw [← seenL_set]
      simp
    rw [e] at hT
    exact hT
  · exact absurd ⟨h1, h2⟩ h.1
theorem take_f {A B g n : Nat} {k : Int} {ps : List Int} (w : World) (hA : w.cell? ⟨A, 0, none⟩ = some (.int .i64 (n : Int))) (hB : w.cell? ⟨B, 0, none⟩ = some (.slice (some ⟨g, 0, none⟩) n n)) (hn : n ≤ 1000) (hS : BoolsAt w g (seenL ps n)) (hk : 0 ≤ k) (h1 : ¬ (k < n ∧ k ∉ ps)) :
    Calls Tryd.prog 62 #[.int .i64 k, .pointer (some ⟨A, 0, none⟩), .pointer (some ⟨B, 0, none⟩)] w fun e w' => e = .returned (.bool false) ∧ Turn g (seenO ps n) w w' := by
  refine (take_any w hA hB hn hS hk).mono ?_
  rintro e w' ⟨rfl, h | h⟩
  · exact absurd ⟨h.1, h.2.1⟩ h1
  · obtain ⟨-, rfl⟩ := h
    exact ⟨by rw [decide_eq_false h1], Turn.refl hS⟩
theorem clE_ok {l : List Cl} {i : Nat} (hi : i < l.length) (h : callE l i = 0) : 0 ≤ l[i].beg ∧ (l[i].en = -1 ∨ l[i].beg < l[i].en) ∧ (0 ≤ l[i].task ∧ l[i].task ≤ 15) ∧ -1 ≤ l[i].en := by
  rw [callE_at hi] at h
  unfold clE at h
  generalize l[i] = x at *
  split at h
  · cases h
  · next h1 =>
    have h1 := Decidable.not_not.1 h1
    split at h
    · cases h
    · next h2 =>
      split at h
      · cases h
      · next h3 => exact ⟨by omega, by omega, h1.1, by omega⟩
/-- how many positions the first calls have, and one for each other call -/
def cN (l : List Cl) (j : Nat) : Nat := (psH (l.take j)).length + (l.length - j)
theorem cN_zero (l : List Cl) : cN l 0 = l.length := by simp [cN, psH]
theorem cN_succ {l : List Cl} {j : Nat} (h : j < l.length) : cN l (j + 1) = if l[j].en = -1 then cN l j else cN l j + 1 := by
  unfold cN
  rw [psH_take h, List.length_append, psC_len]
  split <;> omega
theorem cN_end (l : List Cl) : cN l l.length = (psH l).length := by simp [cN]
theorem cN_le (l : List Cl) : ∀ j, j ≤ l.length → cN l j ≤ l.length + j
  | 0, _ => by rw [cN_zero]; omega
  | j + 1, h => by
    rw [cN_succ (by omega)]
    have := cN_le l j (by omega)
    split <;> omega
theorem infoBo : (Tryd.prog.info? 4).map (fun i => (i.zero, i.size, i.bytes)) = some (some (.bool false), 1, 1) := by kernel_rfl
theorem made_seen (n : Nat) : (Go.madeCells #[.bool false] n) = ((seenL [] n).map Value.bool).toArray := by
  apply Array.toList_inj.1
  rw [toList_madeCells_one]
  simp [seenL, Function.comp_def, List.map_const']

theorem psH_bad {l : List Cl} {j n : Nat} (h : ¬ PsOk (psH (l.take j)) n) : ¬ PsOk (psH l) n := by
  intro g
  refine h ?_
  have e : psH l = psH (l.take j) ++ psH (l.drop j) := by rw [psH_flat, psH_flat, psH_flat, ← List.flatMap_append, List.take_append_drop]
  rw [e] at g
  exact g.pre
theorem psOk_iff {ps : List Int} {n : Nat} {k : Int} (h : PsOk ps n) (h0 : 0 ≤ k) : PsOk (ps ++ [k]) n ↔ (k < n ∧ k ∉ ps) := by
  constructor
  · intro g
    exact ⟨g.1 k (by simp), fun hk => PsOk.twice (qs := []) hk g⟩
  · rintro ⟨h1, h2⟩
    obtain ⟨m, rfl⟩ : ∃ m : Nat, k = (m : Int) := ⟨k.toNat, by omega⟩
    exact h.snoc (by omega) h2
/-- the copy of a call, beside a block that turns -/
theorem cl_box2 {w W : World} {x : Cl} {g : Nat} {o : Obj} (hg : g < w.heap.size) (h : Turn g o (w.alloc (cClO x)) W) : Cl.cells W w.heap.size 0 x ∧ w.heap.size < W.heap.size := by
  have hb := (h.other w.heap.size (lt_of_block (alloc_here w (cClO x))) (by omega)).trans (alloc_here w (cClO x))
  exact ⟨⟨cell_of hb rfl, cell_of hb rfl, cell_of hb rfl, cell_of hb rfl, cell_of hb rfl, cell_of hb rfl⟩, lt_of_block hb⟩

set_option maxRecDepth 100000 in
set_option maxHeartbeats 4000000 in
theorem positions_any (l : List Cl) (a : Option Addr) (c : Nat) (w : World) (h : HsAt w a l) (hl : l.length ≤ 100) (hok : ∀ i, i < l.length → callE l i = 0) :
    Gives Tryd.prog 35 #[.slice a l.length c] w (.bool (decide (PsOk (psH l) (psH l).length))) := by
  unfold Gives
  have HH := Lib.hid (fun W (hW : Ext w W) => h.ext hW)
  have HO := Lib.hid (fun i (hi : i < l.length) => clE_ok hi (hok i hi))
  clear h hok
  obtain ⟨len, hlen⟩ : ∃ n, l.length = n := ⟨_, rfl⟩
  have HL := Lib.hid hlen
  have HC0 := Lib.hid (show cN l 0 = len by rw [cN_zero, hlen])
  obtain ⟨n, hn⟩ : ∃ n, (psH l).length = n := ⟨_, rfl⟩
  have HCe := Lib.hid (show cN l len = n by rw [← hlen, cN_end, hn])
  have HCl := Lib.hid (fun j (hj : j ≤ len) => show cN l j ≤ 200 by have := cN_le l j (by omega); omega)
  have hn2 : n ≤ 200 := by have := HCl.out len (Nat.le_refl _); rw [HCe.out] at this; exact this
  rw [hn]
  clear hn
  rw [hlen] at hl ⊢
  clear hlen
  obtain ⟨w1, hw1⟩ : ∃ W, W = w.alloc (.cells #[.int .i64 (len : Int)] 3) := ⟨_, rfl⟩
  have HE1 := Lib.hid (show Ext w w1 by rw [hw1]; exact ext_allocN _ _)
  have HT1 := Lib.hid (show Turn w.heap.size (.cells #[.int .i64 ((cN l 0 : Nat) : Int)] 3 (0, 0)) w1 w1 by rw [HC0.out, hw1]; exact Turn.refl (alloc_here _ _))
  have hz1 : w.heap.size < w1.heap.size := HT1.out.lt
  go_enter Tryd.func35, Tryd.ntmps35
  go_wp2
  rw [← hw1]
  clear hw1
  go_loopw [14] (fun i wr => ∃ j : Nat, j ≤ len ∧ i = .int .i64 (j : Int) ∧ Turn w.heap.size (.cells #[.int .i64 ((cN l j : Nat) : Int)] 3 (0, 0)) w1 wr) (fun i _ => len - (intOf i).toNat)
  case atStart => exact ⟨0, Nat.zero_le _, rfl, HT1.out⟩
  case round =>
    obtain ⟨j, hj, rfl, hT⟩ := hrel
    have HT := Lib.hid hT
    have hbox := cell_of hT.here (i := 0) rfl
    have hfr := free_of hT.here (i := 0)
    have hzr := hT.lt
    have HE := Lib.hid (show Ext w wr from Below.trans HE1.out (hT.below (Nat.le_refl _) (Nat.le_of_lt hz1)))
    clear hT
    by_cases hlt : j < len
    · have hlt' : j < l.length := by rw [HL.out]; exact hlt
      have HLT := Lib.hid hlt'
      obtain ⟨b, off, rfl, c0, c1, c2, c3, c4, c5⟩ := HH.out wr HE.out j HLT.out
      have HN := Lib.hid (cN_succ HLT.out)
      have HB := Lib.hid (HCl.out j hj)
      clear hlt'
      generalize l[j]'HLT.out = x at *
      obtain ⟨tk, me, ar, re, be, en⟩ := x
      dsimp only at *
      by_cases he : en = -1
      · have d1 : (en != -1) = false := by simpa using he
        have HN2 := Lib.hid (show cN l (j + 1) = cN l j by rw [HN.out, if_pos he])
        clear he
        go_wp2
        go_roundw
        case rel => exact ⟨j + 1, by omega, by go_num, by rw [HN2.out]; exact HT.out.alloc _⟩
        case measure => simp [intOf]; omega
      · have d1 : (en != -1) = true := by simpa using he
        have HN2 := Lib.hid (show cN l (j + 1) = cN l j + 1 by rw [HN.out, if_neg he])
        have hb0 : (0 : Int) ≤ ((cN l j : Nat) : Int) := by omega
        have hb1 : ((cN l j : Nat) : Int) ≤ 200 := by have := HB.out; omega
        clear he
        go_wp2
        go_roundw
        case rel => exact ⟨j + 1, by omega, by go_num, by rw [HN2.out, Int.natCast_add]; exact ((HT.out.setCell (i := 0) (.int .i64 (((cN l j : Nat) : Int) + 1))).alloc _)⟩
        case measure => simp [intOf]; omega
    · have hjl : j = len := by omega
      subst j
      obtain ⟨wo, rfl⟩ : ∃ wo : World, wo = wr := ⟨_, rfl⟩
      have HT := Lib.hid (show Turn w.heap.size (.cells #[.int .i64 (n : Int)] 3 (0, 0)) w1 wo by rw [← HCe.out]; exact HT.out)
      have hbox2 : wo.cell? ⟨w.heap.size, 0, none⟩ = some (.int .i64 (n : Int)) := by rw [← HCe.out]; exact hbox
      clear hbox hlt hj
      have hmk := run_make_row' (P := Tryd.prog) 93 4 (.bool false) 1 Tryd.underlying93 infoBo rfl .i64 .i64 n (by omega) (by omega)
      rw [made_seen] at hmk
      obtain ⟨w2, hw2⟩ : ∃ W, W = ((wo.alloc (seenO [] n)).alloc (.cells #[.slice (some ⟨wo.heap.size, 0, none⟩) n n] 93)) := ⟨_, rfl⟩
      have HS2 := Lib.hid (show Turn wo.heap.size (seenO [] n) w2 w2 from Turn.refl (by rw [hw2]; exact (Below.heap_alloc _ _ _ (by simp)).trans (alloc_here _ _)))
      have HE2 := Lib.hid (show Ext wo w2 by rw [hw2]; exact Below.trans (ext_allocN _ _) ((ext_allocN _ _).mono (by simp)))
      have HB2 := Lib.hid (show w2.heap[wo.heap.size + 1]? = some (.cells #[.slice (some ⟨wo.heap.size, 0, none⟩) n n] 93 (0, 0)) by
        have := alloc_here (wo.alloc (seenO [] n)) (.cells #[.slice (some ⟨wo.heap.size, 0, none⟩) n n] 93)
        rw [World.size_alloc] at this
        rw [hw2]; exact this)
      have HQ := Lib.hid (fun W ps (hT : Turn wo.heap.size (seenO ps n) w2 W) => show W.cell? ⟨w.heap.size, 0, none⟩ = some (.int .i64 (n : Int)) ∧ W.cell? ⟨wo.heap.size + 1, 0, none⟩ = some (.slice (some ⟨wo.heap.size, 0, none⟩) n n) ∧ BoolsAt W wo.heap.size (seenL ps n) ∧ wo.heap.size < W.heap.size ∧ Ext w W from
        ⟨cell_of ((hT.other _ (by have := HE2.out.size; omega) (by omega)).trans ((HE2.out.block _ hzr).trans HT.out.here)) rfl, cell_of ((hT.other _ (lt_of_block HB2.out) (by omega)).trans HB2.out) rfl, hT.here, hT.lt,
          Below.trans (Below.trans HE.out (HE2.out.mono HE.out.size)) (hT.below (Nat.le_of_lt hzr) (by have := HE2.out.size; omega))⟩)
      go_wp2
      rw [← hw2]
      clear hw2
      go_loopw [29] (fun i wr => ∃ j : Nat, j ≤ len ∧ i = .int .i64 (j : Int) ∧ PsOk (psH (l.take j)) n ∧ Turn wo.heap.size (seenO (psH (l.take j)) n) w2 wr) (fun i _ => len - (intOf i).toNat)
      case atStart => exact ⟨0, Nat.zero_le _, rfl, PsOk.nil _, HS2.out⟩
      case round =>
        obtain ⟨j, hj, rfl, hP, hT⟩ := hrel
        have HT2 := Lib.hid hT
        have HP := Lib.hid hP
        clear hT hP
        obtain ⟨-, -, -, hgz, hEq⟩ := HQ.out _ _ HT2.out
        have HEq := Lib.hid hEq
        clear hEq
        by_cases hlt : j < len
        · have hlt' : j < l.length := by rw [HL.out]; exact hlt
          have HLT := Lib.hid hlt'
          obtain ⟨b, off, rfl, c0, c1, c2, c3, c4, c5⟩ := HH.out wr HEq.out j HLT.out
          obtain ⟨o1, o2, o3, o4⟩ := HO.out j HLT.out
          have HN := Lib.hid (psH_take HLT.out)
          clear hlt'
          generalize l[j]'HLT.out = x at *
          have HXB := Lib.hid (fun W ps (hT : Turn wo.heap.size (seenO ps n) (wr.alloc (cClO x)) W) => cl_box2 hgz hT)
          have HTA := Lib.hid (HT2.out.alloc (cClO x))
          generalize psH (l.take j) = ps at *
          obtain ⟨tk, me, ar, re, be, en⟩ := x
          dsimp only at *
          have hcon : n ≤ 1000 := by omega
          obtain ⟨qA, qB, qS, qz, -⟩ := HQ.out _ _ HTA.out
          have HqS := Lib.hid qS
          clear qS o3
          by_cases h1 : be < n ∧ be ∉ ps
          · have C1 := Lib.hid (take_t (wr.alloc (cClO ⟨tk, me, ar, re, be, en⟩)) qA qB hcon HqS.out o1 h1.1 h1.2)
            have HP1 := Lib.hid ((psOk_iff HP.out o1).2 h1)
            clear h1
            go_wp2_with fail
            refine C1.out.mono ?_
            rintro e W1 ⟨rfl, hT1⟩
            have HT1' := Lib.hid hT1
            clear hT1
            obtain ⟨⟨r0, r1, r2, r3, r4, r5⟩, rz⟩ := HXB.out _ _ HT1'.out
            have HTB := Lib.hid (HTA.out.trans HT1'.out)
            obtain ⟨sA, sB', sS, sz, sE⟩ := HQ.out _ _ HTB.out
            have HsS := Lib.hid sS
            have HsE := Lib.hid sE
            clear sS sE
            by_cases he : en = -1
            · have d1 : (en != -1) = false := by simpa using he
              have HPn := Lib.hid (show psH (l.take (j + 1)) = ps ++ [be] by rw [HN.out]; unfold psC; rw [if_pos he])
              clear he
              go_wp2
              go_roundw
              case rel => exact ⟨j + 1, by omega, by go_num, by rw [HPn.out]; exact HP1.out, by rw [HPn.out]; exact HTB.out⟩
              case measure => simp [intOf]; omega
            · have d1 : (en != -1) = true := by simpa using he
              have HPn := Lib.hid (show psH (l.take (j + 1)) = (ps ++ [be]) ++ [en] by rw [HN.out]; unfold psC; rw [if_neg he]; simp)
              have he0 : 0 ≤ en := by omega
              by_cases h2 : en < n ∧ en ∉ ps ++ [be]
              · have C2 := Lib.hid (take_t W1 sA sB' hcon HsS.out he0 h2.1 h2.2)
                have HP2 := Lib.hid ((psOk_iff HP1.out he0).2 h2)
                clear he h2 o1 o2 o4 he0
                go_wp2_with fail
                refine C2.out.mono ?_
                rintro e W2 ⟨rfl, hT3⟩
                have HTC := Lib.hid (HTB.out.trans hT3)
                clear hT3
                go_wp2
                go_roundw
                case rel => exact ⟨j + 1, by omega, by go_num, by rw [HPn.out]; exact HP2.out, by rw [HPn.out]; exact HTC.out⟩
                case measure => simp [intOf]; omega
              · have C2 := Lib.hid (take_f W1 sA sB' hcon HsS.out he0 h2)
                have HPx := Lib.hid (show ¬ PsOk (psH l) n from psH_bad (j := j + 1) (by rw [HPn.out]; exact fun h => h2 ((psOk_iff HP1.out he0).1 h)))
                clear he h2 o1 o2 o4 he0
                go_wp2_with fail
                refine C2.out.mono ?_
                rintro e W2 ⟨rfl, hT3⟩
                have HTC := Lib.hid (HTB.out.trans hT3)
                clear hT3
                go_wp2
                go_ret
                exact ⟨by rw [decide_eq_false HPx.out]; rfl, (HQ.out _ _ HTC.out).2.2.2.2⟩
          · have C1 := Lib.hid (take_f (wr.alloc (cClO ⟨tk, me, ar, re, be, en⟩)) qA qB hcon HqS.out o1 h1)
            have HPx := Lib.hid (show ¬ PsOk (psH l) n from psH_bad (j := j + 1) (by
              rw [HN.out]
              intro g
              refine h1 ((psOk_iff HP.out o1).1 ?_)
              unfold psC at g
              split at g
              · exact g
              · exact PsOk.pre (qs := [en]) (by simpa using g)))
            clear h1
            go_wp2_with fail
            refine C1.out.mono ?_
            rintro e W1 ⟨rfl, hT1⟩
            have HTB := Lib.hid (HTA.out.trans hT1)
            clear hT1
            go_wp2
            go_ret
            exact ⟨by rw [decide_eq_false HPx.out]; rfl, (HQ.out _ _ HTB.out).2.2.2.2⟩
        · have hjl : j = len := by omega
          subst j
          have HPx := Lib.hid (show PsOk (psH l) n by have := HP.out; rw [List.take_of_length_le (by rw [HL.out]; exact Nat.le_refl _)] at this; exact this)
          go_wp2
          go_ret
          exact ⟨by rw [decide_eq_true HPx.out]; rfl, HEq.out⟩
end Go.Proofs.YtmbkjccckmlacaaDoor

