/- Itoa; word, kinds, names; rows of words of the call's own. -/
import Derived.Test.YtfkjokbhnblndaaDoorPgW
import Derived.Test.YtfkjokbhnblndaaDoorShelf
import Derived.Test.YtfkjokbhnblndaaDoorMapW
import Derived.Lib.OwnBridge
import Derived.OwnWalk
namespace Go.Proofs.YtfkjokbhnblndaaDoor
open Go.RowKit Go.Shelf
set_option linter.unusedVariables false
set_option linter.unusedSimpArgs false

theorem ext_grow (w : World) (k : Nat) (os : Array Obj) : Ext w (Go.Sort.grow (w.drewN k) os) :=
  ⟨rfl, rfl, rfl, by simp [Go.Sort.grow], fun j hj => by rw [Go.Sort.heap_grow_old _ _ (by simpa using hj)]; simp⟩
theorem itoa_says : ItoaSays := fun v W hv hT => by
  refine (Tryd.strconv_Itoa v hv.1 hv.2 W hT).mono ?_
  rintro e w' ⟨rfl, k, os, rfl⟩
  exact ⟨rfl, ext_grow _ _ _⟩
theorem word_any (b : Bool) (x y : List UInt8) (w : World) : Gives Tryd.prog 38 #[.bool b, sV x, sV y] w (sV (pick2 b x y)) := by
  unfold Gives
  cases b with
  | false =>
    go_enter Tryd.func38, Tryd.ntmps38
    go_wp2
    go_ret
    exact ⟨rfl, Below.refl _ _⟩
  | true =>
    go_enter Tryd.func38, Tryd.ntmps38
    go_wp2
    go_ret
    exact ⟨rfl, Below.refl _ _⟩
def kindC : Array Value := #[sV [], sV [109, 117, 116, 101, 120], sV [114, 119, 108, 111, 99, 107], sV [99, 111, 110, 100], sV [115, 101, 109, 97, 112, 104, 111, 114, 101], sV [98, 97, 114, 114, 105, 101, 114], sV [99, 104, 97, 110, 110, 101, 108], sV [116, 111, 112, 105, 99], sV [108, 105, 109, 105, 116, 101, 114], sV [102, 117, 116, 117, 114, 101]]
theorem kindC_get (k : Nat) (h : k < 10) : kindC[k]? = some (sV (kindNm k)) := by
  rcases (by omega : k = 0 ∨ k = 1 ∨ k = 2 ∨ k = 3 ∨ k = 4 ∨ k = 5 ∨ k = 6 ∨ k = 7 ∨ k = 8 ∨ k = 9) with rfl | rfl | rfl | rfl | rfl | rfl | rfl | rfl | rfl | rfl <;> rfl
theorem kinds_any (w : World) : Calls Tryd.prog 39 #[] w fun e W => ∃ g, e = .returned (.slice (some ⟨g, 0, none⟩) 10 10) ∧ W.heap[g]? = some (.cells kindC 9 (0, 0)) ∧ Ext w W := by
  have h1 := alloc_here w (.cells kindC 9)
  have h2 : Ext w (w.alloc (.cells kindC 9)) := (Below.refl _ w).alloc (Nat.le_refl _) _
  have H1 := Lib.hid h1
  have H2 := Lib.hid h2
  clear h1 h2
  go_enter Tryd.func39, Tryd.ntmps39
  go_wp2
  go_ret
  exact ⟨_, rfl, H1.out, H2.out⟩
/-- the map of the names -/
def nameV : List (Int × Value) := nameL.map fun p => (p.1, sV p.2)
theorem nameV_find (k : Int) : (((nameV.find? (fun p => p.1 == k)).map (·.2))).getD (sV []) = sV (opName k) := by
  unfold nameV opName
  generalize nameL = l
  induction l with
  | nil => rfl
  | cons x l ih =>
    simp only [List.map_cons, List.find?_cons]
    cases h : x.1 == k with
    | true => simp
    | false => simpa using ih
theorem run_name {w : World} {b : Nat} (h : MapAt w b nameV) (k : Int) : (Instr.lookup 75 (.map (some b)) (.int .i64 k) false).run Tryd.prog w = .ok (sV (opName k)) w := by
  obtain ⟨es, c, h1, h2⟩ := h
  rw [run_lookup_int Tryd.underlying75 Tryd.underlying3 h1 h2 (sV []) (by kernel_rfl) k false]
  simp only [nameV_find]
  rfl
theorem wp_insC {P : Program} {ops : Array Oper} {rest : List Oper} {o : Oper} {a : Act} {Q : Exit → Act → World → Prop} {w : World} (hg : o.guard = none) (m : Operand) (t : TypeId) (k : Int) (val : Value) (hop : o.op = Op.insert t m (.const (.int .i64 k)) (.const val)) (kt e : TypeId) (ht : P.underlying t = some (.map kt e)) (hk : P.underlying kt = some (.int .i64))
    (b : Nat) (l : List (Int × Value)) (hm : a.eval m = .map (some b)) (h : MapAt w b l) (hno : l.all (fun p => p.1 != k) = true)
    (hK : ∀ W, MapAt W b (l ++ [(k, val)]) → Below b w W → (∀ j, j < w.heap.size → j ≠ b → W.heap[j]? = w.heap[j]?) → wpList P ops Q rest (a.put o.dst undef) W) : wpList P ops Q (o :: rest) a w :=
  wp_insert hg m _ _ t hop kt e ht hk b l hm h k val rfl rfl hno hK
set_option maxRecDepth 100000 in
set_option maxHeartbeats 8000000 in
theorem names_any (w : World) : Calls Tryd.prog 40 #[] w fun e W => ∃ b, e = .returned (.map (some b)) ∧ MapAt W b nameV ∧ w.heap.size ≤ b ∧ Ext w W := by
  have hmm := @run_makeMap Tryd.prog
  have hO := MapAt.made w
  have hE : Ext w (w.alloc (.map #[] 0)) := (Below.refl _ w).alloc (Nat.le_refl _) _
  go_enter Tryd.func40, Tryd.ntmps40
  go_wp2_with (refine wp_insC rfl _ _ _ _ rfl _ _ Tryd.underlying75 Tryd.underlying3 _ _ rfl hO rfl ?_; intro V hO1 hB _; replace hE := Below.trans hE hB; clear hB hO; have hO := hO1; clear hO1)
  go_ret
  exact ⟨_, rfl, hO, Nat.le_refl _, hE⟩

/-- v is a row of words of the call's own -/
def RowW (base : Nat) (v : Value) (l : List Wd) (w : World) : Prop := w.ownsRow base 20 1 v l.length (l.map Wd.val)
theorem infoW : (Tryd.prog.info? 20).map (fun i => (i.zero, i.size, i.bytes)) = some (some .nilIface, 1, 16) := by kernel_rfl
theorem RowW.at {base : Nat} {v : Value} {l : List Wd} {w : World} (h : RowW base v l w) (h0 : l ≠ []) : ∃ g cap, v = .slice (some ⟨g, 0, none⟩) l.length cap ∧ WdAt w g 0 l := by
  rcases h.2 with ⟨_, e⟩ | ⟨g, cap, cur, hv, hb, hg, hn, hc, hs, ht⟩
  · exact absurd (List.eq_nil_of_length_eq_zero e) h0
  · refine ⟨g, cap, hv, cur, (0, 0), hg, fun i hi => ?_⟩
    have h1 : (cur.toList.take (l.length * 1))[i]? = some l[i].val := by rw [ht]; simp [hi]
    rw [Nat.mul_one, List.getElem?_take, if_pos hi] at h1
    simpa using h1
variable {ops : Array Oper} {rest : List Oper} {o : Oper} {a : Act} {Q : Exit → Act → World → Prop}
theorem wp_appW (hgd : o.guard = none) (s x : Operand) (ho : o.op = .call { callee := .builtin .append, args := #[s, x], argTypes := #[77, 77] })
    (base : Nat) (v : Value) (l : List Wd) (hs : a.eval s = v) (W : World) (h : RowW base v l W) (n : Wd) (nv : Value) (hnv : n.val = nv) (hx : a.eval x = .slice (some ⟨W.heap.size, 0, none⟩) 1 1) (hlen : l.length ≤ 10000000000) (hbase : base ≤ W.heap.size)
    (hK : ∀ v' w', RowW base v' (l ++ [n]) w' → Below base W w' → wpList Tryd.prog ops Q rest (a.put o.dst v') w') : wpList Tryd.prog ops Q (o :: rest) a (W.alloc (.cells #[nv] 20)) := by
  subst hnv
  obtain ⟨i0, hi, hz0, hz1, hz2⟩ := info_parts infoW
  refine wpList_append_own _ hgd s x 77 ho base 20 i0 .nilIface 1 16 Tryd.underlying77 hi hz0 hz1 hz2 rfl (by decide) v l.length (l.map Wd.val) hs (World.ownsRow.alloc h _) ⟨W.heap.size, 0, none⟩ 1 1 [n.val] hx rfl (cell_one_new _ _ _) (by cases n <;> simp [Value.oneCell', Wd.val]) (by unfold maxLen; omega) (by omega) (by simp; omega) ?_
  intro v' w' hown hg _
  refine hK v' w' ?_ ?_
  · unfold RowW
    simpa using hown
  · exact ((Below.refl base W).alloc hbase _).grown hg (by simp; omega) (fun k e => (World.ownsRow.lt h k e).1)
end Go.Proofs.YtfkjokbhnblndaaDoor
