/- Rows of objects, of variables, of functions that the call made: slices.Clone, append. -/
import Derived.Test.YtfkjokbhnblndaaDoorPgZ
import Derived.Lib.OwnBridge
import Derived.Lib.SliceRun
import Derived.OwnWalk
namespace Go.Proofs.YtfkjokbhnblndaaDoor
open Go.RowKit Go.Shelf
set_option linter.unusedVariables false
set_option linter.unusedSimpArgs false

theorem ownsRow_ext {base : Nat} {e : TypeId} {k : Nat} {v : Value} {n : Nat} {xs : List Value} {w w' : World} (h : w.ownsRow base e k v n xs) (hb : Ext w w') : w'.ownsRow base e k v n xs := ownsRow_extB h hb.below
theorem flat_len {α : Type} (f : α → List Value) (k : Nat) (hf : ∀ x, (f x).length = k) : ∀ l : List α, (l.flatMap f).length = l.length * k
  | [] => by simp
  | x :: l => by rw [List.flatMap_cons, List.length_append, hf, flat_len f k hf l, List.length_cons, Nat.add_mul]; omega
theorem flat_get {α : Type} (f : α → List Value) (k : Nat) (hf : ∀ x, (f x).length = k) : ∀ (l : List α) (i : Nat) (h : i < l.length) (j : Nat), j < k → (l.flatMap f)[i * k + j]? = (f l[i])[j]?
  | x :: l, 0, _, j, hj => by
    rw [List.flatMap_cons, Nat.zero_mul, Nat.zero_add, List.getElem?_append_left (by rw [hf]; exact hj)]; rfl
  | x :: l, i + 1, h, j, hj => by
    rw [List.flatMap_cons, List.getElem?_append_right (by rw [hf, Nat.add_mul]; omega), hf]
    rw [show (i + 1) * k + j - k = i * k + j by rw [Nat.add_mul]; omega]
    exact flat_get f k hf l i (by simpa using h) j hj
theorem flat_one {α : Type} (f : α → List Value) (hf : ∀ x, ∀ v ∈ f x, v.oneCell' = true) (l : List α) : ∀ v ∈ l.flatMap f, v.oneCell' = true := by
  intro v hv
  obtain ⟨x, _, hx⟩ := List.mem_flatMap.1 hv
  exact hf x v hx
theorem cells_flat {α : Type} (f : α → List Value) (k : Nat) (hk : 0 < k) (hf : ∀ x, (f x).length = k) {w : World} {b o : Nat} {l : List α} (h : ∀ i (hi : i < l.length) j, j < k → w.cell? ⟨b, o + i * k + j, none⟩ = (f l[i])[j]?) : ∀ j u, (l.flatMap f)[j]? = some u → w.cell? ((⟨b, o, none⟩ : Addr).add j) = some u := by
  intro j u hu
  have hj : j < l.length * k := by rw [← flat_len f k hf l]; exact (List.getElem?_eq_some_iff.1 hu).1
  have e : (⟨b, o, none⟩ : Addr).add j = ⟨b, o + j, none⟩ := by unfold Addr.add; split <;> simp_all
  have hq : j / k < l.length := (Nat.div_lt_iff_lt_mul hk).2 hj
  have hr : j = j / k * k + j % k := (Nat.div_add_mod' j k).symm
  have hm : j % k < k := Nat.mod_lt _ hk
  rw [e]
  rw [hr, flat_get f k hf l _ hq _ hm] at hu
  rw [hr, ← Nat.add_assoc, h _ hq _ hm]
  exact hu
variable {ops : Array Oper} {rest : List Oper} {o : Oper} {a : Act} {Q : Exit → Act → World → Prop}

/-- the cells of objects -/
def cOb (x : Ob) : List Value := [sV x.name, .int .i64 x.kind, .int .i64 x.size, .int .i64 x.oth]
theorem infoOb : (Tryd.prog.info? 35).map (fun i => (i.zero, i.size, i.bytes)) = some (some (.agg #[sV [], .int .i64 0, .int .i64 0, .int .i64 0]), 4, 40) := by kernel_rfl
/-- v is a row of objects of the call's own -/
def RowOb (base : Nat) (v : Value) (l : List (Ob)) (w : World) : Prop := w.ownsRow base 35 4 v l.length (l.flatMap cOb)
theorem RowOb.ext {base : Nat} {v : Value} {l : List (Ob)} {w w' : World} (h : RowOb base v l w) (hE : Ext w w') : RowOb base v l w' := ownsRow_ext h hE
theorem RowOb.nil (base : Nat) (w : World) : RowOb base (.slice none 0 0) [] w := World.ownsRow_nil _ _ _ _
set_option maxHeartbeats 1000000 in
theorem CloneOb_any (l : List (Ob)) (a : Addr) (c : Nat) (w : World) (hl : l.length ≤ 1000000000) (hc : ∀ j u, (l.flatMap cOb)[j]? = some u → w.cell? (a.add j) = some u) :
    Calls Tryd.prog 21 #[.slice (some a) l.length c] w fun e w' => ∃ v, e = .returned v ∧ RowOb w.heap.size v l w' ∧ Ext w w' := by
  obtain ⟨i0, hi, hz0, hz1, hz2⟩ := info_parts infoOb
  have hn : ∀ W, (binOp .eql 23 (.slice (some a) l.length c) (.slice none 0 0)).run Tryd.prog W = .ok (.bool false) W := fun W => Lib.run_eql_slice_nil (P := Tryd.prog) W 23 _ (some a) l.length c 0 0 Tryd.underlying23
  have HC := Lib.hid (fun W (h : Ext w W) j u hu => (h.below.cell (cell_lt2 (hc j u hu))).trans (hc j u hu))
  have HL := Lib.hid (flat_len cOb 4 (fun _ => rfl) l)
  have HO := Lib.hid (flat_one cOb (fun x v hv => by simp only [cOb, List.mem_cons, List.not_mem_nil, or_false] at hv; rcases hv with rfl | rfl | rfl | rfl <;> rfl) l)
  clear hc
  unfold RowOb
  generalize l.flatMap cOb = xs at *
  generalize l.length = n at *
  have hE0 : Ext w (w.alloc (.cells #[] 35)) := (Below.refl _ w).alloc (Nat.le_refl _) _
  have hA := HC.out _ hE0
  go_enter Tryd.func21, Tryd.ntmps21
  go_wp2_with (at_builtin; go_loud (refine wpList_append_own _ rfl _ _ 23 rfl w.heap.size 35 i0 (.agg #[sV [], .int .i64 0, .int .i64 0, .int .i64 0]) 4 40 Tryd.underlying23 hi hz0 hz1 hz2 rfl (by decide) _ 0 [] rfl (World.ownsRow_lit (base := w.heap.size) w #[] 0 (Nat.le_refl _) (by unfold maxLen; omega) (by simp)) a n c xs rfl HL.out hA HO.out (by unfold maxLen; omega) (by omega) (by simp) ?_); intro v' w3 hown hgrow hnil)
  go_wp2
  go_ret
  rw [Nat.zero_add, List.nil_append] at hown
  exact ⟨_, rfl, hown, ((Below.refl _ w).alloc (Nat.le_refl _) _).grown hgrow (by simp) (fun k e => by cases e; exact Nat.le_refl _)⟩
theorem CloneOb_nil (c : Nat) (w : World) : Calls Tryd.prog 21 #[.slice none 0 c] w fun e w' => e = .returned (.slice none 0 0) ∧ w = w' := by
  have hn : ∀ W, (binOp .eql 23 (.slice none 0 c) (.slice none 0 0)).run Tryd.prog W = .ok (.bool true) W := fun W => Lib.run_eql_slice_nil (P := Tryd.prog) W 23 _ none 0 c 0 0 Tryd.underlying23
  go_enter Tryd.func21, Tryd.ntmps21
  go_wp2
  go_ret
  exact ⟨rfl, rfl⟩
theorem wp_appgOb (hgd : o.guard = none) (s x : Operand) (ho : o.op = .call { callee := .builtin .append, args := #[s, x], argTypes := #[23, 23] })
    (base : Nat) (v : Value) (l : List (Ob)) (hs : a.eval s = v) (W : World) (h : RowOb base v l W) (r : Ob) (g : Nat) (cs : Array Value) (hg : W.heap[g]? = some (.cells cs 35 (0, 0))) (hcs : cs.toList = cOb r) (hx : a.eval x = .slice (some ⟨g, 0, none⟩) 1 1) (hlen : l.length ≤ 1000000000) (hbase : base ≤ W.heap.size)
    (hK : ∀ v' w', RowOb base v' (l ++ [r]) w' → Below base W w' → wpList Tryd.prog ops Q rest (a.put o.dst v') w') : wpList Tryd.prog ops Q (o :: rest) a W := by
  obtain ⟨i0, hi, hz0, hz1, hz2⟩ := info_parts infoOb
  refine wpList_append_own _ hgd s x 23 ho base 35 i0 (.agg #[sV [], .int .i64 0, .int .i64 0, .int .i64 0]) 4 40 Tryd.underlying23 hi hz0 hz1 hz2 rfl (by decide) v l.length (l.flatMap cOb) hs h ⟨g, 0, none⟩ 1 1 (cOb r) hx rfl (fun j u hu => ?_) (fun u hu => ?_) (by unfold maxLen; omega) (by omega) hbase ?_
  · have e : (⟨g, 0, none⟩ : Addr).add j = ⟨g, j, none⟩ := by unfold Addr.add; split <;> simp_all
    rw [e]
    refine cell_of hg ?_
    rw [← hcs] at hu
    simpa using hu
  · simp only [cOb, List.mem_cons, List.not_mem_nil, or_false] at hu
    rcases hu with rfl | rfl | rfl | rfl <;> rfl
  · intro v' w' hown hg _
    refine hK v' w' ?_ ?_
    · unfold RowOb
      simpa [List.flatMap_append] using hown
    · exact (Below.refl base W).grown hg hbase (fun k e => (World.ownsRow.lt h k e).1)
theorem RowOb.le {base base' : Nat} {v : Value} {l : List (Ob)} {w : World} (h : RowOb base v l w) (hb : base' ≤ base) : RowOb base' v l w := by
  obtain ⟨h1, h2⟩ := h
  refine ⟨h1, ?_⟩
  rcases h2 with h2 | ⟨k, cap, cur, hv, hk, hr⟩
  · exact .inl h2
  · exact .inr ⟨k, cap, cur, hv, Nat.le_trans hb hk, hr⟩
theorem RowOb.set {base : Nat} {v : Value} {l : List (Ob)} {w : World} (h : RowOb base v l w) {g i : Nat} {u : Value} (hg : g < base) : RowOb base v l (w.setCell ⟨g, i, none⟩ u) := by
  obtain ⟨h1, h2⟩ := h
  refine ⟨h1, ?_⟩
  rcases h2 with h2 | ⟨k, cap, cur, hv, hb, hk, hr⟩
  · exact .inl h2
  · exact .inr ⟨k, cap, cur, hv, hb, (Below.heap_setCell _ _ _ _ (by show k ≠ g; omega)).trans hk, hr⟩
theorem wp_appOb (hgd : o.guard = none) (s x : Operand) (ho : o.op = .call { callee := .builtin .append, args := #[s, x], argTypes := #[23, 23] })
    (base : Nat) (v : Value) (l : List (Ob)) (hs : a.eval s = v) (W : World) (h : RowOb base v l W) (r : Ob) (cs : Array Value) (hcs : cs.toList = cOb r) (hx : a.eval x = .slice (some ⟨W.heap.size, 0, none⟩) 1 1) (hlen : l.length ≤ 1000000000) (hbase : base ≤ W.heap.size)
    (hK : ∀ v' w', RowOb base v' (l ++ [r]) w' → Below base W w' → wpList Tryd.prog ops Q rest (a.put o.dst v') w') : wpList Tryd.prog ops Q (o :: rest) a (W.alloc (.cells cs 35)) := by
  obtain ⟨i0, hi, hz0, hz1, hz2⟩ := info_parts infoOb
  have hb := alloc_here W (.cells cs 35)
  refine wpList_append_own _ hgd s x 23 ho base 35 i0 (.agg #[sV [], .int .i64 0, .int .i64 0, .int .i64 0]) 4 40 Tryd.underlying23 hi hz0 hz1 hz2 rfl (by decide) v l.length (l.flatMap cOb) hs (World.ownsRow.alloc h _) ⟨W.heap.size, 0, none⟩ 1 1 (cOb r) hx rfl (fun j u hu => ?_) (fun u hu => ?_) (by unfold maxLen; omega) (by omega) (by simp; omega) ?_
  · have e : (⟨W.heap.size, 0, none⟩ : Addr).add j = ⟨W.heap.size, j, none⟩ := by unfold Addr.add; split <;> simp_all
    rw [e]
    refine cell_of hb ?_
    rw [← hcs] at hu
    simpa using hu
  · simp only [cOb, List.mem_cons, List.not_mem_nil, or_false] at hu
    rcases hu with rfl | rfl | rfl | rfl <;> rfl
  · intro v' w' hown hg _
    refine hK v' w' ?_ ?_
    · unfold RowOb
      simpa [List.flatMap_append] using hown
    · exact ((Below.refl base W).alloc hbase _).grown hg (by simp; omega) (fun k e => (World.ownsRow.lt h k e).1)

/-- the cells of variables -/
def cVa (x : Va) : List Value := [sV x.name, .int .i64 x.init, .bool x.atomic]
theorem infoVa : (Tryd.prog.info? 39).map (fun i => (i.zero, i.size, i.bytes)) = some (some (.agg #[sV [], .int .i64 0, .bool false]), 3, 32) := by kernel_rfl
/-- v is a row of variables of the call's own -/
def RowVa (base : Nat) (v : Value) (l : List (Va)) (w : World) : Prop := w.ownsRow base 39 3 v l.length (l.flatMap cVa)
theorem RowVa.ext {base : Nat} {v : Value} {l : List (Va)} {w w' : World} (h : RowVa base v l w) (hE : Ext w w') : RowVa base v l w' := ownsRow_ext h hE
theorem RowVa.nil (base : Nat) (w : World) : RowVa base (.slice none 0 0) [] w := World.ownsRow_nil _ _ _ _
set_option maxHeartbeats 1000000 in
theorem CloneVa_any (l : List (Va)) (a : Addr) (c : Nat) (w : World) (hl : l.length ≤ 1000000000) (hc : ∀ j u, (l.flatMap cVa)[j]? = some u → w.cell? (a.add j) = some u) :
    Calls Tryd.prog 22 #[.slice (some a) l.length c] w fun e w' => ∃ v, e = .returned v ∧ RowVa w.heap.size v l w' ∧ Ext w w' := by
  obtain ⟨i0, hi, hz0, hz1, hz2⟩ := info_parts infoVa
  have hn : ∀ W, (binOp .eql 24 (.slice (some a) l.length c) (.slice none 0 0)).run Tryd.prog W = .ok (.bool false) W := fun W => Lib.run_eql_slice_nil (P := Tryd.prog) W 24 _ (some a) l.length c 0 0 Tryd.underlying24
  have HC := Lib.hid (fun W (h : Ext w W) j u hu => (h.below.cell (cell_lt2 (hc j u hu))).trans (hc j u hu))
  have HL := Lib.hid (flat_len cVa 3 (fun _ => rfl) l)
  have HO := Lib.hid (flat_one cVa (fun x v hv => by simp only [cVa, List.mem_cons, List.not_mem_nil, or_false] at hv; rcases hv with rfl | rfl | rfl <;> rfl) l)
  clear hc
  unfold RowVa
  generalize l.flatMap cVa = xs at *
  generalize l.length = n at *
  have hE0 : Ext w (w.alloc (.cells #[] 39)) := (Below.refl _ w).alloc (Nat.le_refl _) _
  have hA := HC.out _ hE0
  go_enter Tryd.func22, Tryd.ntmps22
  go_wp2_with (at_builtin; go_loud (refine wpList_append_own _ rfl _ _ 24 rfl w.heap.size 39 i0 (.agg #[sV [], .int .i64 0, .bool false]) 3 32 Tryd.underlying24 hi hz0 hz1 hz2 rfl (by decide) _ 0 [] rfl (World.ownsRow_lit (base := w.heap.size) w #[] 0 (Nat.le_refl _) (by unfold maxLen; omega) (by simp)) a n c xs rfl HL.out hA HO.out (by unfold maxLen; omega) (by omega) (by simp) ?_); intro v' w3 hown hgrow hnil)
  go_wp2
  go_ret
  rw [Nat.zero_add, List.nil_append] at hown
  exact ⟨_, rfl, hown, ((Below.refl _ w).alloc (Nat.le_refl _) _).grown hgrow (by simp) (fun k e => by cases e; exact Nat.le_refl _)⟩
theorem CloneVa_nil (c : Nat) (w : World) : Calls Tryd.prog 22 #[.slice none 0 c] w fun e w' => e = .returned (.slice none 0 0) ∧ w = w' := by
  have hn : ∀ W, (binOp .eql 24 (.slice none 0 c) (.slice none 0 0)).run Tryd.prog W = .ok (.bool true) W := fun W => Lib.run_eql_slice_nil (P := Tryd.prog) W 24 _ none 0 c 0 0 Tryd.underlying24
  go_enter Tryd.func22, Tryd.ntmps22
  go_wp2
  go_ret
  exact ⟨rfl, rfl⟩
theorem wp_appgVa (hgd : o.guard = none) (s x : Operand) (ho : o.op = .call { callee := .builtin .append, args := #[s, x], argTypes := #[24, 24] })
    (base : Nat) (v : Value) (l : List (Va)) (hs : a.eval s = v) (W : World) (h : RowVa base v l W) (r : Va) (g : Nat) (cs : Array Value) (hg : W.heap[g]? = some (.cells cs 39 (0, 0))) (hcs : cs.toList = cVa r) (hx : a.eval x = .slice (some ⟨g, 0, none⟩) 1 1) (hlen : l.length ≤ 1000000000) (hbase : base ≤ W.heap.size)
    (hK : ∀ v' w', RowVa base v' (l ++ [r]) w' → Below base W w' → wpList Tryd.prog ops Q rest (a.put o.dst v') w') : wpList Tryd.prog ops Q (o :: rest) a W := by
  obtain ⟨i0, hi, hz0, hz1, hz2⟩ := info_parts infoVa
  refine wpList_append_own _ hgd s x 24 ho base 39 i0 (.agg #[sV [], .int .i64 0, .bool false]) 3 32 Tryd.underlying24 hi hz0 hz1 hz2 rfl (by decide) v l.length (l.flatMap cVa) hs h ⟨g, 0, none⟩ 1 1 (cVa r) hx rfl (fun j u hu => ?_) (fun u hu => ?_) (by unfold maxLen; omega) (by omega) hbase ?_
  · have e : (⟨g, 0, none⟩ : Addr).add j = ⟨g, j, none⟩ := by unfold Addr.add; split <;> simp_all
    rw [e]
    refine cell_of hg ?_
    rw [← hcs] at hu
    simpa using hu
  · simp only [cVa, List.mem_cons, List.not_mem_nil, or_false] at hu
    rcases hu with rfl | rfl | rfl <;> rfl
  · intro v' w' hown hg _
    refine hK v' w' ?_ ?_
    · unfold RowVa
      simpa [List.flatMap_append] using hown
    · exact (Below.refl base W).grown hg hbase (fun k e => (World.ownsRow.lt h k e).1)
theorem RowVa.le {base base' : Nat} {v : Value} {l : List (Va)} {w : World} (h : RowVa base v l w) (hb : base' ≤ base) : RowVa base' v l w := by
  obtain ⟨h1, h2⟩ := h
  refine ⟨h1, ?_⟩
  rcases h2 with h2 | ⟨k, cap, cur, hv, hk, hr⟩
  · exact .inl h2
  · exact .inr ⟨k, cap, cur, hv, Nat.le_trans hb hk, hr⟩
theorem RowVa.set {base : Nat} {v : Value} {l : List (Va)} {w : World} (h : RowVa base v l w) {g i : Nat} {u : Value} (hg : g < base) : RowVa base v l (w.setCell ⟨g, i, none⟩ u) := by
  obtain ⟨h1, h2⟩ := h
  refine ⟨h1, ?_⟩
  rcases h2 with h2 | ⟨k, cap, cur, hv, hb, hk, hr⟩
  · exact .inl h2
  · exact .inr ⟨k, cap, cur, hv, hb, (Below.heap_setCell _ _ _ _ (by show k ≠ g; omega)).trans hk, hr⟩
theorem wp_appVa (hgd : o.guard = none) (s x : Operand) (ho : o.op = .call { callee := .builtin .append, args := #[s, x], argTypes := #[24, 24] })
    (base : Nat) (v : Value) (l : List (Va)) (hs : a.eval s = v) (W : World) (h : RowVa base v l W) (r : Va) (cs : Array Value) (hcs : cs.toList = cVa r) (hx : a.eval x = .slice (some ⟨W.heap.size, 0, none⟩) 1 1) (hlen : l.length ≤ 1000000000) (hbase : base ≤ W.heap.size)
    (hK : ∀ v' w', RowVa base v' (l ++ [r]) w' → Below base W w' → wpList Tryd.prog ops Q rest (a.put o.dst v') w') : wpList Tryd.prog ops Q (o :: rest) a (W.alloc (.cells cs 39)) := by
  obtain ⟨i0, hi, hz0, hz1, hz2⟩ := info_parts infoVa
  have hb := alloc_here W (.cells cs 39)
  refine wpList_append_own _ hgd s x 24 ho base 39 i0 (.agg #[sV [], .int .i64 0, .bool false]) 3 32 Tryd.underlying24 hi hz0 hz1 hz2 rfl (by decide) v l.length (l.flatMap cVa) hs (World.ownsRow.alloc h _) ⟨W.heap.size, 0, none⟩ 1 1 (cVa r) hx rfl (fun j u hu => ?_) (fun u hu => ?_) (by unfold maxLen; omega) (by omega) (by simp; omega) ?_
  · have e : (⟨W.heap.size, 0, none⟩ : Addr).add j = ⟨W.heap.size, j, none⟩ := by unfold Addr.add; split <;> simp_all
    rw [e]
    refine cell_of hb ?_
    rw [← hcs] at hu
    simpa using hu
  · simp only [cVa, List.mem_cons, List.not_mem_nil, or_false] at hu
    rcases hu with rfl | rfl | rfl <;> rfl
  · intro v' w' hown hg _
    refine hK v' w' ?_ ?_
    · unfold RowVa
      simpa [List.flatMap_append] using hown
    · exact ((Below.refl base W).alloc hbase _).grown hg (by simp; omega) (fun k e => (World.ownsRow.lt h k e).1)

/-- the cells of functions -/
def cFn (x : Fn × Option Addr × Nat) : List Value := [sV x.1.name, .int .i64 x.1.params, .int .i64 x.1.regs, .int .i64 x.1.prio, .bool x.1.cl, .slice x.2.1 x.1.code.length x.2.2]
theorem infoFn : (Tryd.prog.info? 44).map (fun i => (i.zero, i.size, i.bytes)) = some (some (.agg #[sV [], .int .i64 0, .int .i64 0, .int .i64 0, .bool false, .slice none 0 0]), 6, 72) := by kernel_rfl
/-- v is a row of functions of the call's own -/
def RowFn (base : Nat) (v : Value) (l : List (Fn × Option Addr × Nat)) (w : World) : Prop := w.ownsRow base 44 6 v l.length (l.flatMap cFn)
theorem RowFn.ext {base : Nat} {v : Value} {l : List (Fn × Option Addr × Nat)} {w w' : World} (h : RowFn base v l w) (hE : Ext w w') : RowFn base v l w' := ownsRow_ext h hE
theorem RowFn.nil (base : Nat) (w : World) : RowFn base (.slice none 0 0) [] w := World.ownsRow_nil _ _ _ _
set_option maxHeartbeats 1000000 in
theorem CloneFn_any (l : List (Fn × Option Addr × Nat)) (a : Addr) (c : Nat) (w : World) (hl : l.length ≤ 1000000000) (hc : ∀ j u, (l.flatMap cFn)[j]? = some u → w.cell? (a.add j) = some u) :
    Calls Tryd.prog 23 #[.slice (some a) l.length c] w fun e w' => ∃ v, e = .returned v ∧ RowFn w.heap.size v l w' ∧ Ext w w' := by
  obtain ⟨i0, hi, hz0, hz1, hz2⟩ := info_parts infoFn
  have hn : ∀ W, (binOp .eql 22 (.slice (some a) l.length c) (.slice none 0 0)).run Tryd.prog W = .ok (.bool false) W := fun W => Lib.run_eql_slice_nil (P := Tryd.prog) W 22 _ (some a) l.length c 0 0 Tryd.underlying22
  have HC := Lib.hid (fun W (h : Ext w W) j u hu => (h.below.cell (cell_lt2 (hc j u hu))).trans (hc j u hu))
  have HL := Lib.hid (flat_len cFn 6 (fun _ => rfl) l)
  have HO := Lib.hid (flat_one cFn (fun x v hv => by simp only [cFn, List.mem_cons, List.not_mem_nil, or_false] at hv; rcases hv with rfl | rfl | rfl | rfl | rfl | rfl <;> rfl) l)
  clear hc
  unfold RowFn
  generalize l.flatMap cFn = xs at *
  generalize l.length = n at *
  have hE0 : Ext w (w.alloc (.cells #[] 44)) := (Below.refl _ w).alloc (Nat.le_refl _) _
  have hA := HC.out _ hE0
  go_enter Tryd.func23, Tryd.ntmps23
  go_wp2_with (at_builtin; go_loud (refine wpList_append_own _ rfl _ _ 22 rfl w.heap.size 44 i0 (.agg #[sV [], .int .i64 0, .int .i64 0, .int .i64 0, .bool false, .slice none 0 0]) 6 72 Tryd.underlying22 hi hz0 hz1 hz2 rfl (by decide) _ 0 [] rfl (World.ownsRow_lit (base := w.heap.size) w #[] 0 (Nat.le_refl _) (by unfold maxLen; omega) (by simp)) a n c xs rfl HL.out hA HO.out (by unfold maxLen; omega) (by omega) (by simp) ?_); intro v' w3 hown hgrow hnil)
  go_wp2
  go_ret
  rw [Nat.zero_add, List.nil_append] at hown
  exact ⟨_, rfl, hown, ((Below.refl _ w).alloc (Nat.le_refl _) _).grown hgrow (by simp) (fun k e => by cases e; exact Nat.le_refl _)⟩
theorem CloneFn_nil (c : Nat) (w : World) : Calls Tryd.prog 23 #[.slice none 0 c] w fun e w' => e = .returned (.slice none 0 0) ∧ w = w' := by
  have hn : ∀ W, (binOp .eql 22 (.slice none 0 c) (.slice none 0 0)).run Tryd.prog W = .ok (.bool true) W := fun W => Lib.run_eql_slice_nil (P := Tryd.prog) W 22 _ none 0 c 0 0 Tryd.underlying22
  go_enter Tryd.func23, Tryd.ntmps23
  go_wp2
  go_ret
  exact ⟨rfl, rfl⟩
theorem wp_appgFn (hgd : o.guard = none) (s x : Operand) (ho : o.op = .call { callee := .builtin .append, args := #[s, x], argTypes := #[22, 22] })
    (base : Nat) (v : Value) (l : List (Fn × Option Addr × Nat)) (hs : a.eval s = v) (W : World) (h : RowFn base v l W) (r : Fn × Option Addr × Nat) (g : Nat) (cs : Array Value) (hg : W.heap[g]? = some (.cells cs 44 (0, 0))) (hcs : cs.toList = cFn r) (hx : a.eval x = .slice (some ⟨g, 0, none⟩) 1 1) (hlen : l.length ≤ 1000000000) (hbase : base ≤ W.heap.size)
    (hK : ∀ v' w', RowFn base v' (l ++ [r]) w' → Below base W w' → wpList Tryd.prog ops Q rest (a.put o.dst v') w') : wpList Tryd.prog ops Q (o :: rest) a W := by
  obtain ⟨i0, hi, hz0, hz1, hz2⟩ := info_parts infoFn
  refine wpList_append_own _ hgd s x 22 ho base 44 i0 (.agg #[sV [], .int .i64 0, .int .i64 0, .int .i64 0, .bool false, .slice none 0 0]) 6 72 Tryd.underlying22 hi hz0 hz1 hz2 rfl (by decide) v l.length (l.flatMap cFn) hs h ⟨g, 0, none⟩ 1 1 (cFn r) hx rfl (fun j u hu => ?_) (fun u hu => ?_) (by unfold maxLen; omega) (by omega) hbase ?_
  · have e : (⟨g, 0, none⟩ : Addr).add j = ⟨g, j, none⟩ := by unfold Addr.add; split <;> simp_all
    rw [e]
    refine cell_of hg ?_
    rw [← hcs] at hu
    simpa using hu
  · simp only [cFn, List.mem_cons, List.not_mem_nil, or_false] at hu
    rcases hu with rfl | rfl | rfl | rfl | rfl | rfl <;> rfl
  · intro v' w' hown hg _
    refine hK v' w' ?_ ?_
    · unfold RowFn
      simpa [List.flatMap_append] using hown
    · exact (Below.refl base W).grown hg hbase (fun k e => (World.ownsRow.lt h k e).1)
theorem RowFn.le {base base' : Nat} {v : Value} {l : List (Fn × Option Addr × Nat)} {w : World} (h : RowFn base v l w) (hb : base' ≤ base) : RowFn base' v l w := by
  obtain ⟨h1, h2⟩ := h
  refine ⟨h1, ?_⟩
  rcases h2 with h2 | ⟨k, cap, cur, hv, hk, hr⟩
  · exact .inl h2
  · exact .inr ⟨k, cap, cur, hv, Nat.le_trans hb hk, hr⟩
theorem RowFn.set {base : Nat} {v : Value} {l : List (Fn × Option Addr × Nat)} {w : World} (h : RowFn base v l w) {g i : Nat} {u : Value} (hg : g < base) : RowFn base v l (w.setCell ⟨g, i, none⟩ u) := by
  obtain ⟨h1, h2⟩ := h
  refine ⟨h1, ?_⟩
  rcases h2 with h2 | ⟨k, cap, cur, hv, hb, hk, hr⟩
  · exact .inl h2
  · exact .inr ⟨k, cap, cur, hv, hb, (Below.heap_setCell _ _ _ _ (by show k ≠ g; omega)).trans hk, hr⟩
theorem wp_appFn (hgd : o.guard = none) (s x : Operand) (ho : o.op = .call { callee := .builtin .append, args := #[s, x], argTypes := #[22, 22] })
    (base : Nat) (v : Value) (l : List (Fn × Option Addr × Nat)) (hs : a.eval s = v) (W : World) (h : RowFn base v l W) (r : Fn × Option Addr × Nat) (cs : Array Value) (hcs : cs.toList = cFn r) (hx : a.eval x = .slice (some ⟨W.heap.size, 0, none⟩) 1 1) (hlen : l.length ≤ 1000000000) (hbase : base ≤ W.heap.size)
    (hK : ∀ v' w', RowFn base v' (l ++ [r]) w' → Below base W w' → wpList Tryd.prog ops Q rest (a.put o.dst v') w') : wpList Tryd.prog ops Q (o :: rest) a (W.alloc (.cells cs 44)) := by
  obtain ⟨i0, hi, hz0, hz1, hz2⟩ := info_parts infoFn
  have hb := alloc_here W (.cells cs 44)
  refine wpList_append_own _ hgd s x 22 ho base 44 i0 (.agg #[sV [], .int .i64 0, .int .i64 0, .int .i64 0, .bool false, .slice none 0 0]) 6 72 Tryd.underlying22 hi hz0 hz1 hz2 rfl (by decide) v l.length (l.flatMap cFn) hs (World.ownsRow.alloc h _) ⟨W.heap.size, 0, none⟩ 1 1 (cFn r) hx rfl (fun j u hu => ?_) (fun u hu => ?_) (by unfold maxLen; omega) (by omega) (by simp; omega) ?_
  · have e : (⟨W.heap.size, 0, none⟩ : Addr).add j = ⟨W.heap.size, j, none⟩ := by unfold Addr.add; split <;> simp_all
    rw [e]
    refine cell_of hb ?_
    rw [← hcs] at hu
    simpa using hu
  · simp only [cFn, List.mem_cons, List.not_mem_nil, or_false] at hu
    rcases hu with rfl | rfl | rfl | rfl | rfl | rfl <;> rfl
  · intro v' w' hown hg _
    refine hK v' w' ?_ ?_
    · unfold RowFn
      simpa [List.flatMap_append] using hown
    · exact ((Below.refl base W).alloc hbase _).grown hg (by simp; omega) (fun k e => (World.ownsRow.lt h k e).1)

/-- a row of objects of the call's own, read -/
theorem RowOb.at {base : Nat} {v : Value} {l : List Ob} {w : World} (h : RowOb base v l w) : ∃ p c, v = .slice p l.length c ∧ ObRow w p l ∧ l.length ≤ c := by
  rcases h.2 with ⟨rfl, e⟩ | ⟨g, cap, cur, hv, hb, hg, hn, hc, hs, ht⟩
  · obtain rfl := List.eq_nil_of_length_eq_zero e
    exact ⟨none, 0, rfl, fun i hi => absurd hi (Nat.not_lt_zero _), Nat.le_refl _⟩
  · refine ⟨_, cap, hv, fun i hi => ⟨g, 0, rfl, ?_⟩, hn⟩
    have hget : ∀ j, j < 4 → w.cell? ⟨g, 0 + i * 4 + j, none⟩ = (cOb l[i])[j]? := fun j hj => by
      have h1 : (cur.toList.take (l.length * 4))[i * 4 + j]? = (l.flatMap cOb)[i * 4 + j]? := by rw [ht]
      rw [List.getElem?_take, if_pos (by omega), flat_get cOb 4 (fun _ => rfl) l i hi j hj] at h1
      rw [Nat.zero_add]
      have h2 : (cOb l[i])[j]? = some ((cOb l[i])[j]'hj) := List.getElem?_eq_getElem hj
      rw [h2] at h1 ⊢
      exact cell_of hg (by simpa using h1)
    exact ⟨hget 0 (by omega), hget 1 (by omega), hget 2 (by omega), hget 3 (by omega)⟩
theorem RowVa.at {base : Nat} {v : Value} {l : List Va} {w : World} (h : RowVa base v l w) : ∃ p c, v = .slice p l.length c ∧ VaRow w p l ∧ l.length ≤ c := by
  rcases h.2 with ⟨rfl, e⟩ | ⟨g, cap, cur, hv, hb, hg, hn, hc, hs, ht⟩
  · obtain rfl := List.eq_nil_of_length_eq_zero e
    exact ⟨none, 0, rfl, fun i hi => absurd hi (Nat.not_lt_zero _), Nat.le_refl _⟩
  · refine ⟨_, cap, hv, fun i hi => ⟨g, 0, rfl, ?_⟩, hn⟩
    have hget : ∀ j, j < 3 → w.cell? ⟨g, 0 + i * 3 + j, none⟩ = (cVa l[i])[j]? := fun j hj => by
      have h1 : (cur.toList.take (l.length * 3))[i * 3 + j]? = (l.flatMap cVa)[i * 3 + j]? := by rw [ht]
      rw [List.getElem?_take, if_pos (by omega), flat_get cVa 3 (fun _ => rfl) l i hi j hj] at h1
      rw [Nat.zero_add]
      have h2 : (cVa l[i])[j]? = some ((cVa l[i])[j]'hj) := List.getElem?_eq_getElem hj
      rw [h2] at h1 ⊢
      exact cell_of hg (by simpa using h1)
    exact ⟨hget 0 (by omega), hget 1 (by omega), hget 2 (by omega)⟩
theorem RowFn.at {base : Nat} {v : Value} {l : List (Fn × Option Addr × Nat)} {w : World} (h : RowFn base v l w) (hrow : ∀ i (hi : i < l.length), InsRow w l[i].2.1 l[i].1.code) : ∃ p c, v = .slice p l.length c ∧ FnRow w p (l.map (·.1)) ∧ l.length ≤ c := by
  rcases h.2 with ⟨rfl, e⟩ | ⟨g, cap, cur, hv, hb, hg, hn, hc, hs, ht⟩
  · obtain rfl := List.eq_nil_of_length_eq_zero e
    exact ⟨none, 0, rfl, fun i hi => absurd hi (Nat.not_lt_zero _), Nat.le_refl _⟩
  · refine ⟨_, cap, hv, fun i hi => ?_, hn⟩
    have hi : i < l.length := by simpa using hi
    refine ⟨g, 0, l[i].2.1, l[i].2.2, rfl, ?_, by rw [List.getElem_map]; exact hrow i hi⟩
    have hget : ∀ j, j < 6 → w.cell? ⟨g, 0 + i * 6 + j, none⟩ = (cFn l[i])[j]? := fun j hj => by
      have h1 : (cur.toList.take (l.length * 6))[i * 6 + j]? = (l.flatMap cFn)[i * 6 + j]? := by rw [ht]
      rw [List.getElem?_take, if_pos (by omega), flat_get cFn 6 (fun _ => rfl) l i hi j hj] at h1
      rw [Nat.zero_add]
      have h2 : (cFn l[i])[j]? = some ((cFn l[i])[j]'hj) := List.getElem?_eq_getElem hj
      rw [h2] at h1 ⊢
      exact cell_of hg (by simpa using h1)
    rw [List.getElem_map]
    exact ⟨hget 0 (by omega), hget 1 (by omega), hget 2 (by omega), hget 3 (by omega), hget 4 (by omega), hget 5 (by omega)⟩
/-- the clone of a program's rows -/
theorem CloneOb_row {l : List Ob} {p : Option Addr} (c : Nat) {w : World} (h : ObRow w p l) (hl : l.length ≤ 1000000000) : Calls Tryd.prog 21 #[.slice p l.length c] w fun e w' => ∃ v, e = .returned v ∧ RowOb w.heap.size v l w' ∧ Ext w w' := by
  cases p with
  | none =>
    have h0 : l = [] := by
      cases l with
      | nil => rfl
      | cons x l => obtain ⟨b, o, e, _⟩ := h 0 (by simp); cases e
    subst h0
    exact (CloneOb_nil c w).mono (fun e w' ⟨h3, h4⟩ => ⟨_, h3, RowOb.nil _ _, by rw [← h4]; exact Below.refl _ _⟩)
  | some a =>
    refine CloneOb_any l a c w hl ?_
    by_cases h0 : l = []
    · subst h0; intro j u hu; simp at hu
    · obtain ⟨b, o, e, _⟩ := h 0 (List.length_pos_iff.2 h0)
      cases e
      refine cells_flat cOb 4 (by omega) (fun _ => rfl) (fun i hi j hj => ?_)
      obtain ⟨b', o', e, h3⟩ := h i hi
      cases e
      rcases (by omega : j = 0 ∨ j = 1 ∨ j = 2 ∨ j = 3) with rfl | rfl | rfl | rfl
      · exact h3.c0
      · exact h3.c1
      · exact h3.c2
      · exact h3.c3
theorem CloneVa_row {l : List Va} {p : Option Addr} (c : Nat) {w : World} (h : VaRow w p l) (hl : l.length ≤ 1000000000) : Calls Tryd.prog 22 #[.slice p l.length c] w fun e w' => ∃ v, e = .returned v ∧ RowVa w.heap.size v l w' ∧ Ext w w' := by
  cases p with
  | none =>
    have h0 : l = [] := by
      cases l with
      | nil => rfl
      | cons x l => obtain ⟨b, o, e, _⟩ := h 0 (by simp); cases e
    subst h0
    exact (CloneVa_nil c w).mono (fun e w' ⟨h3, h4⟩ => ⟨_, h3, RowVa.nil _ _, by rw [← h4]; exact Below.refl _ _⟩)
  | some a =>
    refine CloneVa_any l a c w hl ?_
    by_cases h0 : l = []
    · subst h0; intro j u hu; simp at hu
    · obtain ⟨b, o, e, _⟩ := h 0 (List.length_pos_iff.2 h0)
      cases e
      refine cells_flat cVa 3 (by omega) (fun _ => rfl) (fun i hi j hj => ?_)
      obtain ⟨b', o', e, h3⟩ := h i hi
      cases e
      rcases (by omega : j = 0 ∨ j = 1 ∨ j = 2) with rfl | rfl | rfl
      · exact h3.c0
      · exact h3.c1
      · exact h3.c2
/-- the functions with where their code lies -/
theorem FnRow.rows {w : World} {p : Option Addr} {l : List Fn} (h : FnRow w p l) : ∃ rs : List (Fn × Option Addr × Nat), rs.map (·.1) = l ∧ (∀ i (hi : i < rs.length), InsRow w rs[i].2.1 rs[i].1.code) ∧ ∀ i (hi : i < rs.length), ∃ b o, p = some ⟨b, o, none⟩ ∧ Fn.cells w b (o + i * 6) rs[i].1 rs[i].2.1 rs[i].2.2 := by
  have key : ∀ n, n ≤ l.length → ∃ rs : List (Fn × Option Addr × Nat), rs.map (·.1) = l.take n ∧ (∀ i (hi : i < rs.length), InsRow w rs[i].2.1 rs[i].1.code) ∧ ∀ i (hi : i < rs.length), ∃ b o, p = some ⟨b, o, none⟩ ∧ Fn.cells w b (o + i * 6) rs[i].1 rs[i].2.1 rs[i].2.2 := by
    intro n
    induction n with
    | zero => intro _; exact ⟨[], rfl, fun i hi => absurd hi (Nat.not_lt_zero _), fun i hi => absurd hi (Nat.not_lt_zero _)⟩
    | succ n ih =>
      intro hn
      obtain ⟨rs, h1, h2, h3⟩ := ih (by omega)
      have hlt : n < l.length := by omega
      obtain ⟨b, o, a, c, e, hc, hi⟩ := h n hlt
      have hlen : rs.length = n := by have := congrArg List.length h1; simp at this; omega
      have hget : ∀ i (hi : i < (rs ++ [(l[n], a, c)]).length), (∃ h : i < rs.length, (rs ++ [(l[n], a, c)])[i] = rs[i]) ∨ (i = n ∧ (rs ++ [(l[n], a, c)])[i] = (l[n], a, c)) := fun i hi => by
        by_cases hl : i < rs.length
        · exact .inl ⟨hl, List.getElem_append_left hl⟩
        · have e1 : i = rs.length := by simp at hi; omega
          refine .inr ⟨by omega, ?_⟩
          subst e1; simp
      refine ⟨rs ++ [(l[n], a, c)], by rw [List.map_append, h1, List.take_succ_eq_append_getElem hlt]; rfl, fun i hi' => ?_, fun i hi' => ?_⟩
      · rcases hget i hi' with ⟨hl, e1⟩ | ⟨rfl, e1⟩
        · rw [e1]; exact h2 i hl
        · rw [e1]; exact hi
      · rcases hget i hi' with ⟨hl, e1⟩ | ⟨rfl, e1⟩
        · rw [e1]; exact h3 i hl
        · rw [e1]; exact ⟨b, o, e, hc⟩
  obtain ⟨rs, h1, h2, h3⟩ := key l.length (Nat.le_refl _)
  rw [List.take_length] at h1
  exact ⟨rs, h1, h2, h3⟩
theorem CloneFn_row {rs : List (Fn × Option Addr × Nat)} {p : Option Addr} (c : Nat) {w : World} (h : ∀ i (hi : i < rs.length), ∃ b o, p = some ⟨b, o, none⟩ ∧ Fn.cells w b (o + i * 6) rs[i].1 rs[i].2.1 rs[i].2.2) (hl : rs.length ≤ 1000000000) : Calls Tryd.prog 23 #[.slice p rs.length c] w fun e w' => ∃ v, e = .returned v ∧ RowFn w.heap.size v rs w' ∧ Ext w w' := by
  cases p with
  | none =>
    have h0 : rs = [] := by
      cases rs with
      | nil => rfl
      | cons x l => obtain ⟨b, o, e, _⟩ := h 0 (by simp); cases e
    subst h0
    exact (CloneFn_nil c w).mono (fun e w' ⟨h3, h4⟩ => ⟨_, h3, RowFn.nil _ _, by rw [← h4]; exact Below.refl _ _⟩)
  | some a =>
    refine CloneFn_any rs a c w hl ?_
    by_cases h0 : rs = []
    · subst h0; intro j u hu; simp at hu
    · obtain ⟨b, o, e, _⟩ := h 0 (List.length_pos_iff.2 h0)
      cases e
      refine cells_flat cFn 6 (by omega) (fun _ => rfl) (fun i hi j hj => ?_)
      obtain ⟨b', o', e, h3⟩ := h i hi
      cases e
      rcases (by omega : j = 0 ∨ j = 1 ∨ j = 2 ∨ j = 3 ∨ j = 4 ∨ j = 5) with rfl | rfl | rfl | rfl | rfl | rfl
      · exact h3.c0
      · exact h3.c1
      · exact h3.c2
      · exact h3.c3
      · exact h3.c4
      · exact h3.c5
end Go.Proofs.YtfkjokbhnblndaaDoor
