/- Appending to slices of bytes and of integers that the call made: the laws in the form that my walks use. -/
import Derived.Test.YtpdmcikegcknlaaDoorBuild
import Derived.Test.YtpdmcikegcknlaaDoorCodecInt
import Derived.Test.YtpdmcikegcknlaaDoorISl
import Derived.Lib.AppendStr
import Derived.Deep.OwnRows
import Derived.Lib.SmallJoins
namespace Go.Proofs.YtpdmcikegcknlaaDoor
open Go.RowKit
set_option linter.unusedVariables false

/-- v is a slice of bytes of the call's own (its block from base on, or nil), holding l -/
def Row8 (base : Nat) (v : Value) (l : List UInt8) (w : World) : Prop := w.ownsRow base 5 1 v l.length (bsV l)
theorem Row8.nil (base : Nat) (w : World) : Row8 base (.slice none 0 0) [] w := World.ownsRow_nil _ _ _ _
theorem Row8.empty (w : World) (base : Nat) (hb : base ≤ w.heap.size) : Row8 base (.slice (some ⟨w.heap.size, 0, none⟩) 0 0) [] (w.alloc (.cells #[] 5)) :=
  World.ownsRow_lit w #[] 0 hb (by unfold maxLen; omega) (by simp)
theorem Row8.ext {base : Nat} {v : Value} {l : List UInt8} {w w' : World} (h : Row8 base v l w) (hb : Below w.heap.size w w') : Row8 base v l w' := ownsRow_extB h hb
theorem Row8.forms {base : Nat} {v : Value} {l : List UInt8} {w : World} (h : Row8 base v l w) : (v = .slice none 0 0 ∧ l.length = 0) ∨ ∃ g cap, v = .slice (some ⟨g, 0, none⟩) l.length cap := Go.Joins.ownsRow_forms h
theorem Row8.conv {base : Nat} {v : Value} {l : List UInt8} {w : World} (h : Row8 base v l w) : (convert 48 9 v).run Tryd.prog w = .ok (sV l) w := by
  rcases h.forms with ⟨rfl, h0⟩ | ⟨g, cap, rfl⟩
  · obtain rfl := List.eq_nil_of_length_eq_zero h0
    kernel_rfl
  · exact conv_own rfl h

theorem bytes_one (c : UInt8) (n : Int) (hn : (c.toNat : Int) = n) : [Value.int .u8 n] = bsV [c] := by subst hn; rfl

variable {ops : Array Oper} {rest : List Oper} {o : Oper} {a : Act} {Q : Exit → Act → World → Prop}

theorem wp_app8 (hgd : o.guard = none) (s x : Operand) (ho : o.op = .call { callee := .builtin .append, args := #[s, x], argTypes := #[48, 48] })
    (base : Nat) (v : Value) (l : List UInt8) (hs : a.eval s = v) (W : World) (h : Row8 base v l W) (c : UInt8) (n : Int) (hn : (c.toNat : Int) = n) (hx : a.eval x = .slice (some ⟨W.heap.size, 0, none⟩) 1 1) (hlen : l.length ≤ 100000000000) (hbase : base ≤ W.heap.size)
    (hK : ∀ v' w', Row8 base v' (l ++ [c]) w' → Below base W w' → wpList Tryd.prog ops Q rest (a.put o.dst v') w') : wpList Tryd.prog ops Q (o :: rest) a (W.alloc (.cells #[.int .u8 n] 5)) := by
  obtain ⟨i0, hi, hz0, hz1, hz2⟩ := info_parts infoB
  refine wpList_append_own _ hgd s x 48 ho base 5 i0 (.int .u8 0) 1 1 Tryd.underlying48 hi hz0 hz1 hz2 rfl (by decide) v l.length (bsV l) hs (World.ownsRow.alloc h _) ⟨W.heap.size, 0, none⟩ 1 1 [.int .u8 n] hx rfl (cell_one_new _ _ _) (by simp [Value.oneCell']) (by unfold maxLen; omega) (by omega) (by simp; omega) ?_
  intro v' w' hown hg _
  refine hK v' w' ?_ ?_
  · unfold Row8
    rw [bytes_one c n hn, bsV_add] at hown
    simpa using hown
  · exact ((Below.refl base W).alloc hbase _).grown hg (by simp; omega) (fun k e => (World.ownsRow.lt h k e).1)

theorem wp_apps (hgd : o.guard = none) (s x : Operand) (ho : o.op = .call { callee := .builtin .append, args := #[s, x], argTypes := #[48, 9] })
    (base : Nat) (v : Value) (l : List UInt8) (hs : a.eval s = v) (W : World) (h : Row8 base v l W) (m : List UInt8) (hx : a.eval x = sV m) (hlen : l.length + m.length ≤ 100000000000) (hbase : base ≤ W.heap.size)
    (hK : ∀ v' w', Row8 base v' (l ++ m) w' → Below base W w' → wpList Tryd.prog ops Q rest (a.put o.dst v') w') : wpList Tryd.prog ops Q (o :: rest) a W := by
  obtain ⟨i0, hi, hz0, hz1, hz2⟩ := info_parts infoB
  refine Go.Lib.wpList_append_own_string _ hgd s x 48 9 ho base 5 i0 Tryd.underlying48 Tryd.underlying9 hi hz0 hz1 hz2 v l.length (bsV l) hs h (sB m) hx (by rw [sB_size]; unfold maxLen; omega) (by rw [sB_size]; omega) hbase ?_
  intro v' w' hown hg _
  refine hK v' w' ?_ ?_
  · unfold Row8
    rw [strCells_sB, bsV_add, sB_size] at hown
    simpa using hown
  · exact (Below.refl base W).grown hg hbase (fun k e => (World.ownsRow.lt h k e).1)

/-- v is a slice of integers of the call's own, holding l -/
def RowI (base : Nat) (v : Value) (l : List Int) (w : World) : Prop := w.ownsRow base 3 1 v l.length (l.map (Value.int .i64))
theorem infoI' : (Tryd.prog.info? 3).map (fun i => (i.zero, i.size, i.bytes)) = some (some (.int .i64 0), 1, 8) := by kernel_rfl
theorem RowI.nil (base : Nat) (w : World) : RowI base (.slice none 0 0) [] w := World.ownsRow_nil _ _ _ _
theorem RowI.empty (w : World) (base : Nat) (hb : base ≤ w.heap.size) : RowI base (.slice (some ⟨w.heap.size, 0, none⟩) 0 0) [] (w.alloc (.cells #[] 3)) :=
  World.ownsRow_lit w #[] 0 hb (by unfold maxLen; omega) (by simp)
theorem RowI.ext {base : Nat} {v : Value} {l : List Int} {w w' : World} (h : RowI base v l w) (hb : Below w.heap.size w w') : RowI base v l w' := ownsRow_extB h hb
theorem RowI.forms {base : Nat} {v : Value} {l : List Int} {w : World} (h : RowI base v l w) : (v = .slice none 0 0 ∧ l.length = 0) ∨ ∃ g cap, v = .slice (some ⟨g, 0, none⟩) l.length cap := Go.Joins.ownsRow_forms h
theorem RowI.ints {base : Nat} {v : Value} {l : List Int} {w : World} (h : RowI base v l w) : ∃ x c, v = .slice x l.length c ∧ IntsAt w x l ∧ (∀ y, x = some y → base ≤ y.block) ∧ (x = none → c = 0) := by
  rcases h.forms with ⟨rfl, h0⟩ | ⟨g, cap, rfl⟩
  · obtain rfl := List.eq_nil_of_length_eq_zero h0
    exact ⟨none, 0, rfl, IntsAt.nil, (fun y e => by cases e), fun _ => rfl⟩
  · refine ⟨_, _, rfl, fun i hi => ⟨_, _, rfl, ?_⟩, (fun y e => by cases e; exact (World.ownsRow.lt h g rfl).1), (fun e => by cases e)⟩
    rw [Nat.zero_add, World.ownsRow.cellAt h i (by omega)]
    simp [hi]

theorem wp_appI (hgd : o.guard = none) (s x : Operand) (ho : o.op = .call { callee := .builtin .append, args := #[s, x], argTypes := #[22, 22] })
    (base : Nat) (v : Value) (l : List Int) (hs : a.eval s = v) (W : World) (h : RowI base v l W) (n : Int) (hx : a.eval x = .slice (some ⟨W.heap.size, 0, none⟩) 1 1) (hlen : l.length ≤ 10000000000) (hbase : base ≤ W.heap.size)
    (hK : ∀ v' w', RowI base v' (l ++ [n]) w' → Below base W w' → wpList Tryd.prog ops Q rest (a.put o.dst v') w') : wpList Tryd.prog ops Q (o :: rest) a (W.alloc (.cells #[.int .i64 n] 3)) := by
  obtain ⟨i0, hi, hz0, hz1, hz2⟩ := info_parts infoI'
  refine wpList_append_own _ hgd s x 22 ho base 3 i0 (.int .i64 0) 1 8 Tryd.underlying22 hi hz0 hz1 hz2 rfl (by decide) v l.length (l.map (Value.int .i64)) hs (World.ownsRow.alloc h _) ⟨W.heap.size, 0, none⟩ 1 1 [.int .i64 n] hx rfl (cell_one_new _ _ _) (by simp [Value.oneCell']) (by unfold maxLen; omega) (by omega) (by simp; omega) ?_
  intro v' w' hown hg _
  refine hK v' w' ?_ ?_
  · unfold RowI
    simpa using hown
  · exact ((Below.refl base W).alloc hbase _).grown hg (by simp; omega) (fun k e => (World.ownsRow.lt h k e).1)

end Go.Proofs.YtpdmcikegcknlaaDoor
