/- Regions that draw their order and whose calls leave old memory as it was; strings turned into slices of bytes. -/
import Derived.Test.YtfkjokbhnblndaaGreatDoorBase
import Derived.Deep.QuietTactic
import Derived.BigQuiet
import Derived.Laws.IdiomStrings
import Derived.OwnWalk
namespace Go.Proofs.YtfkjokbhnblndaaGreatDoor
open Go.RowKit
set_option linter.unusedVariables false

/-- W has all that w had -/
def Ext (w W : World) : Prop := Below w.heap.size w W
theorem Ext.below {w W : World} (h : Ext w W) : Below w.heap.size w W := h
theorem Ext.call {P : Program} {f : FuncId} {args : Array Value} {w0 W : World} {v : Value} (h : Gives P f args W v) (hW : Ext w0 W) : Calls P f args W fun e w'' => e = .returned v ∧ Ext w0 w'' :=
  h.mono fun w' hb => ⟨rfl, Below.trans hW (hb.mono hW.size)⟩

theorem Ext.undrew {w W : World} (h : Ext w.drew W) : Ext w W := ⟨h.os, h.tape, h.output, h.size, h.block⟩
theorem Ext.undrewN {w W : World} {n : Nat} (h : Ext (w.drewN n) W) : Ext w W := ⟨h.os, h.tape, h.output, h.size, h.block⟩
theorem Ext.drewN' {w W : World} {n : Nat} (h : Ext w W) : Ext w (W.drewN n) := ⟨h.os, h.tape, h.output, h.size, h.block⟩
theorem Ext.trans {a b c : World} (h : Ext a b) (g : Ext b c) : Ext a c := Below.trans h (g.below.mono h.size)

theorem wp_region_ext {P : Program} {id : Nat} {Q : Exit → Act → World → Prop} {a : Act} {w : World} {l : List Oper} (hm : P.follows .mixedOrders = true) (hB : Region.lexB .any l.toArray = true)
    (h : wpQuiet P l.toArray (Ext w) (fun a' => ∀ w', Ext w w' → Q .normal a' w') l a) : (Code.region id l.toArray true).wp P Q a w :=
  wp_region_quiet (C := Ext w) hm hB (⟨rfl, rfl, rfl, Nat.le_refl _, fun _ _ => rfl⟩) (by simpa using h)

/-- a world that has all that w had: the class of the worlds of a region -/
structure Up (w : World) where
  W : World
  ext : Ext w W
instance (w : World) : Nonempty (Up w) := ⟨⟨w, Below.refl _ _⟩⟩
theorem Up.call {P : Program} {f : FuncId} {args : Array Value} {w : World} {v : Value} {U : Up w} (h : Gives P f args U.W v) : Calls P f args U.W fun e w'' => e = .returned v ∧ ∃ U' : Up w, w'' = U'.W :=
  h.mono fun w' hb => ⟨rfl, ⟨w', Below.trans U.ext (hb.mono U.ext.size)⟩, rfl⟩
theorem Up.cell {w : World} {a : Addr} {v : Value} (h : w.cell? a = some v) (U : Up w) : U.W.cell? a = some v := by
  have hb : a.block < w.heap.size := by
    unfold World.cell? at h
    split at h
    · rename_i hx; exact lt_of_block hx
    · cases h
  exact (U.ext.below.cell hb).trans h
theorem wp_region_up {P : Program} {id : Nat} {Q : Exit → Act → World → Prop} {a : Act} {w : World} {l : List Oper} (hm : P.follows .mixedOrders = true) (hB : Region.lexB .any l.toArray = true)
    (h : wpQuiet P l.toArray (fun W => ∃ U : Up w, W = U.W) (fun a' => ∀ w', (∃ U : Up w, w' = U.W) → Q .normal a' w') l a) : (Code.region id l.toArray true).wp P Q a w :=
  wp_region_quiet (C := fun W => ∃ U : Up w, W = U.W) hm hB ⟨⟨{ w with drawn := w.drawn + 1 }, ⟨rfl, rfl, rfl, Nat.le_refl _, fun _ _ => rfl⟩⟩, rfl⟩ (by simpa using h)

/-- an operation that is no call, and yields the same value in each world of the class -/
theorem quiet_value {P : Program} {C : World → Prop} {K : Act → Prop} {o : Oper} {a : Act} (v : Value) (h : ∀ w, C w → (execOp a.eval o).run P w = .ok (.value v) w) (hk : K (a.put o.dst v)) : o.quiet P a C K :=
  ⟨v, fun w hw => by unfold Oper.quietAt; rw [h w hw]; exact ⟨rfl, rfl⟩, hk⟩

theorem quiet_convert {P : Program} {C : World → Prop} {K : Act → Prop} {o : Oper} {a : Act} {src dst : TypeId} {x : Operand} (hop : o.op = .convert src dst x) {v0 : Value} (hx : a.eval x = v0) (v : Value)
    (h : ∀ w, C w → (convert src dst v0).run P w = .ok v w) (hk : K (a.put o.dst v)) : o.quiet P a C K :=
  quiet_value v (fun w hw => by simp only [execOp, hop, hx, Sem.run_bind, h w hw, Result.andThen, Sem.run_pure]) hk

theorem free_mark {w : World} {k i lo hi : Nat} {c : Array Value} {t : TypeId} (h : w.heap[k]? = some (.cells c t (lo, hi))) (hl : i < lo) : w.frozen? ⟨k, i, none⟩ = false := by
  simp [World.frozen?, h]; omega
/-- the cells of block g begin with the bytes l, and may be written -/
def BytesAt (w : World) (g : Nat) (l : List UInt8) : Prop := ∀ i (h : i < l.length), w.cell? ⟨g, i, none⟩ = some (.int .u8 (l[i].toNat : Int)) ∧ w.frozen? ⟨g, i, none⟩ = false

theorem BytesAt.conv {P : Program} {w : World} {g : Nat} {l : List UInt8} (h : BytesAt w g l) {src dst e : TypeId} (hs : P.underlying src = some (.slice e)) (he : P.underlying e = some (.int .u8)) (hd : P.underlying dst = some .string) (n cap : Nat) (hn : n = l.length) :
    (convert src dst (.slice (some ⟨g, 0, none⟩) n cap)).run P w = .ok (sV l) w := by
  subst hn
  refine run_convert_bytes_back w src dst e ⟨g, 0, none⟩ cap l hs he hd (fun j hj => ?_)
  have := (h j hj).1
  unfold Addr.add
  split
  · rename_i h0; subst h0; exact this
  · simpa using this

theorem BytesAt.set {w : World} {g : Nat} {l : List UInt8} (h : BytesAt w g l) (i : Nat) (b : UInt8) (hi : i < l.length) : BytesAt (w.setCell ⟨g, i, none⟩ (.int .u8 (b.toNat : Int))) g (l.set i b) := by
  intro j hj
  have hj' : j < l.length := by simpa using hj
  obtain ⟨h1, h2⟩ := h j hj'
  refine ⟨?_, by rw [World.frozen?_setCell]; exact h2⟩
  by_cases e : i = j
  · subst e
    rw [List.getElem_set_self]
    exact World.cell?_setCell_same' _ _ _ (by rw [h1]; rfl)
  · rw [List.getElem_set_ne e]
    rw [World.cell?_setCell_other w ⟨g, i, none⟩ ⟨g, j, none⟩ _ (by intro h0; apply e; exact congrArg Addr.off h0)]
    exact h1

theorem BytesAt.ext {w W : World} {g : Nat} {l : List UInt8} (h : BytesAt w g l) (hg : g < w.heap.size) (hW : Ext w W) : BytesAt W g l := fun i hi =>
  ⟨(hW.below.cell (p := ⟨g, i, none⟩) hg).trans (h i hi).1, (hW.below.frozen (p := ⟨g, i, none⟩) hg).trans (h i hi).2⟩

/-- '[]byte(s)': a new block with the bytes -/
theorem wpList_strbytes {P : Program} {ops : Array Oper} {Q : Exit → Act → World → Prop} {rest : List Oper} {o : Oper} {a : Act} {w : World} (hg : o.guard = none) (src dst e : TypeId) (x : Operand) (hop : o.op = .convert src dst x)
    (l : List UInt8) (hx : a.eval x = sV l) (hs : P.underlying src = some .string) (hd : P.underlying dst = some (.slice e)) (he : P.underlying e = some (.int .u8))
    (hK : ∀ W g cap, Ext w W → w.heap.size ≤ g → g < W.heap.size → BytesAt W g l → wpList P ops Q rest (a.put o.dst (.slice (some ⟨g, 0, none⟩) l.length cap)) W) : wpList P ops Q (o :: rest) a w := by
  refine wpList_plain hg fun K hK' => ?_
  have hrun := run_bytes_of_string (P := P) w src dst e (sB l) hs hd he
  unfold Oper.wp
  simp only [execOp, hop, hx]
  simp only [Sem.run_bind, hrun, Result.andThen, Sem.run_pure, Oper.upon]
  refine hK' _ _ ?_
  rw [sB_size]
  refine hK _ _ _ ?_ (Nat.le_refl _) ?_ ?_
  · exact ((Below.refl _ w).drew).alloc (Nat.le_refl _) _
  · simp
  · intro i hi
    have hA := alloc_here w.drew (.cells (bytesRow (sB l) (grownCap w l.length 0 e)) e ((bytesRow (sB l) (grownCap w l.length 0 e)).size, (bytesRow (sB l) (grownCap w l.length 0 e)).size + 1))
    have hsz : i < (bytesRow (sB l) (grownCap w l.length 0 e)).size := by simp [bytesRow, sB]; omega
    refine ⟨cell_of hA ?_, ?_⟩
    · simp [bytesRow, sB, Array.getElem?_append, hi]
    · exact free_mark hA hsz

end Go.Proofs.YtfkjokbhnblndaaGreatDoor
