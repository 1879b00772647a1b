/- Arguments that came in: a program. -/
import Derived.Test.YtfkjokbhnblndaaDoorPgB
import Derived.Deep.Slices
import Derived.Deep.Fields
import Derived.ChangeSame
import Derived.Lib.SmallJoins
import Derived.SizedLaws
namespace Go.Proofs.YtfkjokbhnblndaaDoor
open Go.RowKit Go.ChangeShapes Go.WideShapes Go.Deep Go.Joins
set_option linter.unusedVariables false
set_option linter.unusedSimpArgs false

theorem weights_all_mem {H : Type} {P : Program} {e : TypeId} : ∀ {ds : List (DataW H)} {d : DataW H}, d ∈ ds → ∀ n ∈ d.weights P e, n ∈ DataW.weightsAll P e ds
  | d0 :: ds, d, hd, n, hn => by
    simp only [DataW.weightsAll, List.mem_append]
    rcases List.mem_cons.1 hd with rfl | hd
    · exact .inl hn
    · exact .inr (weights_all_mem hd n hn)
  | [], _, hd, _, _ => by cases hd
theorem add_zero {a : Addr} {w : World} {v : Value} (h : w.cell? (a.add 0) = some v) : a = ⟨a.block, a.off, none⟩ := by
  obtain ⟨b, o, s⟩ := a
  have hs : s = none := World.cell?_spot (a := ⟨b, o, s⟩) (by simpa [Addr.add] using h)
  rw [hs]
theorem add_cell {a : Addr} {j : Nat} {w : World} {v : Value} (h : w.cell? (a.add j) = some v) : w.cell? ⟨a.block, a.off + j, none⟩ = some v := by
  by_cases h0 : j = 0
  · subst h0
    have h1 := add_zero h
    rw [h1] at h
    simpa [Addr.add] using h
  · unfold Addr.add at h
    rw [if_neg h0] at h
    exact h
theorem cells_at {w : World} {base : Nat} {a : Addr} {n : Nat} {cs : List Value} (h : w.cells? base a n = some cs) : ∀ j v, j < n → cs[j]? = some v → w.cell? (a.add j) = some v := by
  intro j v hj hv
  obtain ⟨_, _, hat⟩ := World.cells?_some h
  exact (hat j hj).trans hv


/-- a slice that came in, by what its elements are -/
theorem open_sl {H : Type} {enc : TypeId × Value → H} {W : World} {base : Nat} {sp : Nat → Bool} {hd : Bool} {S T : TypeId} {K B : Nat} (hS : Tryd.prog.underlying S = some (.slice T)) (hK : Tryd.prog.cellsOf T = K) (hB : Tryd.prog.bytesOf T = B) (hK0 : 0 < K)
    {R : Type} [Inhabited R] (f : R → List Value) (Good : R → Prop) (hf : ∀ r, (f r).length = K)
    (op : ∀ n cs x, DataW.trod enc Tryd.prog W base sp hd n T cs = some x → (∀ m ∈ x.1.weights Tryd.prog T, m ≤ reachBytes) → ∃ r, cs = f r ∧ Good r)
    {fuel : Nat} {c : Value} {y : DataW H × List MemPlace} (h : DataW.trod enc Tryd.prog W base sp hd fuel S [c] = some y) (hw : ∀ m ∈ y.1.weights Tryd.prog S, m ≤ reachBytes) :
    ∃ (a : Option Addr) (cap : Nat) (l : List R), c = .slice a l.length cap ∧ l.length ≤ cap ∧ l.length * B ≤ reachBytes ∧ ∀ i (hi : i < l.length), Good l[i] ∧ ∃ b o, a = some ⟨b, o, none⟩ ∧ ∀ j u, (f l[i])[j]? = some u → W.cell? ⟨b, o + i * K + j, none⟩ = some u := by
  rcases DataW.trod_slice hS h with ⟨hc, rfl⟩ | ⟨a, len, cap, elems, rest, n', hn', hc, rfl, hb, hl, hm, hel, hat, _, _⟩
  · cases hc
    exact ⟨none, 0, [], rfl, Nat.le_refl _, by simp, fun i hi => absurd hi (Nat.not_lt_zero _)⟩
  · cases hc
    have hwl : (elems.length + rest.length) * B ≤ reachBytes := by
      have := hw ((elems.length + rest.length) * Tryd.prog.bytesOf T) (by simp [DataW.weights, hS])
      rwa [hB] at this
    have hE : ∀ i, i < len → ∃ r : R, Good r ∧ ∀ j u, (f r)[j]? = some u → W.cell? (a.add (i * K + j)) = some u := by
      intro i hi
      have hx := hat i hi
      rw [hK, List.getElem?_eq_getElem (by omega)] at hx
      obtain ⟨cs', hcs, hx⟩ := Option.bind_eq_some_iff.1 hx
      obtain ⟨r, rfl, hr⟩ := op n' cs' _ hx (fun m hm => hw m (by
        simp only [DataW.weights, hS, List.mem_cons, List.mem_append]
        exact .inr (.inl (weights_all_mem (List.mem_map.2 ⟨_, List.getElem_mem (by omega), rfl⟩) m hm))))
      refine ⟨r, hr, fun j u hu => ?_⟩
      have hj : j < K := by rw [← hf r]; exact (List.getElem?_eq_some_iff.1 hu).1
      rw [← Go.Deep.add_add]
      exact cells_at hcs j u hj hu
    obtain ⟨g, hg⟩ := choose_lt hE
    have hll : ((List.range len).map g).length = len := by simp
    refine ⟨some a, cap, (List.range len).map g, by rw [hll], by omega, by rw [hll, ← hel]; exact Nat.le_trans (Nat.mul_le_mul_right _ (Nat.le_add_right _ _)) hwl, fun i hi => ?_⟩
    have hi' : i < len := by rwa [hll] at hi
    have hgi : ((List.range len).map g)[i] = g i := by simp
    rw [hgi]
    obtain ⟨h1, h2⟩ := hg i hi'
    have hne : ∃ u, (f (g 0))[0]? = some u := ⟨_, List.getElem?_eq_getElem (by rw [hf]; exact hK0)⟩
    obtain ⟨u, hu⟩ := hne
    have ha : a = ⟨a.block, a.off, none⟩ := add_zero (by have := (hg 0 (by omega)).2 0 u hu; simpa using this)
    exact ⟨h1, a.block, a.off, congrArg some ha, fun j u hu => by have := add_cell (h2 j u hu); rwa [← Nat.add_assoc] at this⟩

theorem intCells : Tryd.prog.cellsOf 3 = 1 := by kernel_rfl
theorem intBytes : Tryd.prog.bytesOf 3 = 8 := by kernel_rfl
theorem strCells1 : Tryd.prog.cellsOf 9 = 1 := by kernel_rfl
theorem boolCells : Tryd.prog.cellsOf 4 = 1 := by kernel_rfl
theorem i64_of_wf {n : Int} (h : (Lit.int .i64 n).wf = true) : i64 n := i64_bd h
theorem reach_eq : reachBytes ≤ 140737488355328 := by unfold reachBytes; omega
abbrev cIn (r : Ins × Option Addr × Nat) : List Value := [.int .i64 r.1.op, .int .i64 r.1.a, .int .i64 r.1.b, .int .i64 r.1.c, .slice r.2.1 r.1.args.length r.2.2]
def GoodI (W : World) (r : Ins × Option Addr × Nat) : Prop := r.1.wf ∧ IntsAt W r.2.1 r.1.args ∧ r.1.args.length ≤ r.2.2
abbrev cFu (r : Fn × Option Addr × Nat) : List Value := [sV r.1.name, .int .i64 r.1.params, .int .i64 r.1.regs, .int .i64 r.1.prio, .bool r.1.cl, .slice r.2.1 r.1.code.length r.2.2]
def GoodF (W : World) (r : Fn × Option Addr × Nat) : Prop := r.1.wf ∧ InsRow W r.2.1 r.1.code
abbrev cOb' (x : Ob) : List Value := [sV x.name, .int .i64 x.kind, .int .i64 x.size, .int .i64 x.oth]
abbrev cVa' (x : Va) : List Value := [sV x.name, .int .i64 x.init, .bool x.atomic]
theorem insCells : Tryd.prog.cellsOf 56 = 5 := by kernel_rfl
theorem insBytes : Tryd.prog.bytesOf 56 = 56 := by kernel_rfl
theorem insargsCells : Tryd.prog.cellsOf 54 = 1 := by kernel_rfl
set_option maxRecDepth 100000 in
set_option maxHeartbeats 1000000 in
theorem open_ins {H : Type} {enc : TypeId × Value → H} (W : World) (base : Nat) (sp : Nat → Bool) (hd : Bool) : ∀ (n : Nat) (cs : List Value) (x : DataW H × List MemPlace), DataW.trod enc Tryd.prog W base sp hd n 56 cs = some x → (∀ m ∈ x.1.weights Tryd.prog 56, m ≤ reachBytes) →
    ∃ r : Ins × Option Addr × Nat, cs = cIn r ∧ GoodI W r := by
  intro n0 cs x h hw
  obtain ⟨xs, n, hn, rfl, hl, hlen, hf⟩ := DataW.trod_struct Tryd.underlying56 h
  rw [insCells] at hl
  match cs, hl, xs, hlen with
  | [c0, c1, c2, c3, c4], _, [y0, y1, y2, y3, y4], _ =>
    have h0 : DataW.trod enc Tryd.prog W base sp hd n 3 [c0] = some y0 := by simpa [intCells] using hf 0 _ rfl
    have h1 : DataW.trod enc Tryd.prog W base sp hd n 3 [c1] = some y1 := by simpa [intCells] using hf 1 _ rfl
    have h2 : DataW.trod enc Tryd.prog W base sp hd n 3 [c2] = some y2 := by simpa [intCells] using hf 2 _ rfl
    have h3 : DataW.trod enc Tryd.prog W base sp hd n 3 [c3] = some y3 := by simpa [intCells] using hf 3 _ rfl
    have h4 : DataW.trod enc Tryd.prog W base sp hd n 54 [c4] = some y4 := by simpa [insargsCells] using hf 4 _ rfl
    simp only [DataW.weights, Tryd.underlying56, List.map_cons, List.map_nil, DataW.weightsEach, List.mem_append] at hw
    obtain ⟨op, e0, rfl, w0⟩ := DataW.trod_int Tryd.underlying3 h0
    cases e0
    obtain ⟨a, e1, rfl, w1⟩ := DataW.trod_int Tryd.underlying3 h1
    cases e1
    obtain ⟨b, e2, rfl, w2⟩ := DataW.trod_int Tryd.underlying3 h2
    cases e2
    obtain ⟨c, e3, rfl, w3⟩ := DataW.trod_int Tryd.underlying3 h3
    cases e3
    obtain ⟨a4, cap4, args, rfl, cl4, bl4, g4⟩ := open_sl Tryd.underlying54 intCells intBytes (by decide) (fun n : Int => [Value.int .i64 n]) i64 (fun _ => rfl) (fun n cs x h _ => by obtain ⟨k, e, _, hk⟩ := DataW.trod_int Tryd.underlying3 h; exact ⟨k, e, i64_of_wf hk⟩) h4 (fun m hm => hw m (.inr (.inr (.inr (.inr (.inl hm))))))
    replace bl4 := Nat.le_trans bl4 reach_eq
    refine ⟨(⟨op, a, b, c, args⟩, a4, cap4), rfl, ⟨i64_of_wf w0, i64_of_wf w1, i64_of_wf w2, i64_of_wf w3, by show args.length ≤ _; omega, fun n hn => ?_⟩, fun i hi => ?_, cl4⟩
    · obtain ⟨i, hi, rfl⟩ := List.getElem_of_mem hn
      exact (g4 i hi).1
    · obtain ⟨b', o', e, hc⟩ := (g4 i hi).2
      refine ⟨b', o', e, ?_⟩
      have := hc 0 _ rfl
      simpa using this
instance : Inhabited (Ins × Option Addr × Nat) := ⟨(⟨0, 0, 0, 0, []⟩, none, 0)⟩
instance : Inhabited (Fn × Option Addr × Nat) := ⟨(⟨[], 0, 0, 0, false, []⟩, none, 0)⟩
instance : Inhabited Ob := ⟨⟨[], 0, 0, 0⟩⟩
instance : Inhabited Va := ⟨⟨[], 0, false⟩⟩
theorem funCells : Tryd.prog.cellsOf 44 = 6 := by kernel_rfl
theorem funBytes : Tryd.prog.bytesOf 44 = 72 := by kernel_rfl
theorem funcodeCells : Tryd.prog.cellsOf 42 = 1 := by kernel_rfl
set_option maxRecDepth 100000 in
set_option maxHeartbeats 1000000 in
theorem open_fun {H : Type} {enc : TypeId × Value → H} (W : World) (base : Nat) (sp : Nat → Bool) (hd : Bool) : ∀ (n : Nat) (cs : List Value) (x : DataW H × List MemPlace), DataW.trod enc Tryd.prog W base sp hd n 44 cs = some x → (∀ m ∈ x.1.weights Tryd.prog 44, m ≤ reachBytes) →
    ∃ r : Fn × Option Addr × Nat, cs = cFu r ∧ GoodF W r := by
  intro n0 cs x h hw
  obtain ⟨xs, n, hn, rfl, hl, hlen, hf⟩ := DataW.trod_struct Tryd.underlying44 h
  rw [funCells] at hl
  match cs, hl, xs, hlen with
  | [c0, c1, c2, c3, c4, c5], _, [y0, y1, y2, y3, y4, y5], _ =>
    have h0 : DataW.trod enc Tryd.prog W base sp hd n 9 [c0] = some y0 := by simpa [strCells1] using hf 0 _ rfl
    have h1 : DataW.trod enc Tryd.prog W base sp hd n 3 [c1] = some y1 := by simpa [intCells] using hf 1 _ rfl
    have h2 : DataW.trod enc Tryd.prog W base sp hd n 3 [c2] = some y2 := by simpa [intCells] using hf 2 _ rfl
    have h3 : DataW.trod enc Tryd.prog W base sp hd n 3 [c3] = some y3 := by simpa [intCells] using hf 3 _ rfl
    have h4 : DataW.trod enc Tryd.prog W base sp hd n 4 [c4] = some y4 := by simpa [boolCells] using hf 4 _ rfl
    have h5 : DataW.trod enc Tryd.prog W base sp hd n 42 [c5] = some y5 := by simpa [funcodeCells] using hf 5 _ rfl
    simp only [DataW.weights, Tryd.underlying44, List.map_cons, List.map_nil, DataW.weightsEach, List.mem_append] at hw
    obtain ⟨s0, e0, rfl, w0⟩ := DataW.trod_string Tryd.underlying9 h0
    cases e0
    obtain ⟨nm, rfl⟩ := sB_of s0
    rw [sB_data] at hw
    have hn0 : nm.length ≤ 140737488355328 := by
      have := hw nm.length (.inl (by simp [DataW.weights]))
      exact Nat.le_trans this reach_eq
    obtain ⟨pa, e1, rfl, w1⟩ := DataW.trod_int Tryd.underlying3 h1
    cases e1
    obtain ⟨re, e2, rfl, w2⟩ := DataW.trod_int Tryd.underlying3 h2
    cases e2
    obtain ⟨pr, e3, rfl, w3⟩ := DataW.trod_int Tryd.underlying3 h3
    cases e3
    obtain ⟨cl, e4, rfl⟩ := DataW.trod_bool Tryd.underlying4 h4
    cases e4
    obtain ⟨a5, cap5, code, rfl, cl5, bl5, g5⟩ := (open_sl Tryd.underlying42 insCells insBytes (by decide) cIn (GoodI W) (fun _ => rfl) (open_ins W base sp hd)) h5 (fun m hm => hw m (.inr (.inr (.inr (.inr (.inr (.inl hm)))))))
    replace bl5 := Nat.le_trans bl5 reach_eq
    refine ⟨(⟨nm, pa, re, pr, cl, code.map (·.1)⟩, a5, cap5), by simp [cFu], ⟨hn0, i64_of_wf w1, i64_of_wf w2, i64_of_wf w3, by show (code.map _).length ≤ _; rw [List.length_map]; omega, fun c hc => ?_⟩, fun i hi => ?_⟩
    · obtain ⟨r, hr, rfl⟩ := List.mem_map.1 hc
      obtain ⟨i, hi, rfl⟩ := List.getElem_of_mem hr
      exact (g5 i hi).1.1
    · have hi' : i < code.length := by simpa using hi
      obtain ⟨hG, b', o', e, hc⟩ := g5 i hi'
      refine ⟨b', o', code[i].2.1, code[i].2.2, e, ?_, ?_, ?_⟩
      · rw [List.getElem_map]
        exact ⟨hc 0 _ rfl, hc 1 _ rfl, hc 2 _ rfl, hc 3 _ rfl, hc 4 _ rfl⟩
      · rw [List.getElem_map]; exact hG.2.1
      · rw [List.getElem_map]; exact hG.2.2
theorem objCells : Tryd.prog.cellsOf 35 = 4 := by kernel_rfl
theorem objBytes : Tryd.prog.bytesOf 35 = 40 := by kernel_rfl
set_option maxRecDepth 100000 in
set_option maxHeartbeats 1000000 in
theorem open_obj {H : Type} {enc : TypeId × Value → H} (W : World) (base : Nat) (sp : Nat → Bool) (hd : Bool) : ∀ (n : Nat) (cs : List Value) (x : DataW H × List MemPlace), DataW.trod enc Tryd.prog W base sp hd n 35 cs = some x → (∀ m ∈ x.1.weights Tryd.prog 35, m ≤ reachBytes) →
    ∃ r : Ob, cs = cOb' r ∧ r.wf := by
  intro n0 cs x h hw
  obtain ⟨xs, n, hn, rfl, hl, hlen, hf⟩ := DataW.trod_struct Tryd.underlying35 h
  rw [objCells] at hl
  match cs, hl, xs, hlen with
  | [c0, c1, c2, c3], _, [y0, y1, y2, y3], _ =>
    have h0 : DataW.trod enc Tryd.prog W base sp hd n 9 [c0] = some y0 := by simpa [strCells1] using hf 0 _ rfl
    have h1 : DataW.trod enc Tryd.prog W base sp hd n 3 [c1] = some y1 := by simpa [intCells] using hf 1 _ rfl
    have h2 : DataW.trod enc Tryd.prog W base sp hd n 3 [c2] = some y2 := by simpa [intCells] using hf 2 _ rfl
    have h3 : DataW.trod enc Tryd.prog W base sp hd n 3 [c3] = some y3 := by simpa [intCells] using hf 3 _ rfl
    simp only [DataW.weights, Tryd.underlying35, List.map_cons, List.map_nil, DataW.weightsEach, List.mem_append] at hw
    obtain ⟨s0, e0, rfl, w0⟩ := DataW.trod_string Tryd.underlying9 h0
    cases e0
    obtain ⟨nm, rfl⟩ := sB_of s0
    rw [sB_data] at hw
    have hn0 : nm.length ≤ 140737488355328 := by
      have := hw nm.length (.inl (by simp [DataW.weights]))
      exact Nat.le_trans this reach_eq
    obtain ⟨ki, e1, rfl, w1⟩ := DataW.trod_int Tryd.underlying3 h1
    cases e1
    obtain ⟨si, e2, rfl, w2⟩ := DataW.trod_int Tryd.underlying3 h2
    cases e2
    obtain ⟨ot, e3, rfl, w3⟩ := DataW.trod_int Tryd.underlying3 h3
    cases e3
    exact ⟨⟨nm, ki, si, ot⟩, rfl, ⟨hn0, i64_of_wf w1, i64_of_wf w2, i64_of_wf w3⟩⟩
theorem varCells : Tryd.prog.cellsOf 39 = 3 := by kernel_rfl
theorem varBytes : Tryd.prog.bytesOf 39 = 32 := by kernel_rfl
set_option maxRecDepth 100000 in
set_option maxHeartbeats 1000000 in
theorem open_var {H : Type} {enc : TypeId × Value → H} (W : World) (base : Nat) (sp : Nat → Bool) (hd : Bool) : ∀ (n : Nat) (cs : List Value) (x : DataW H × List MemPlace), DataW.trod enc Tryd.prog W base sp hd n 39 cs = some x → (∀ m ∈ x.1.weights Tryd.prog 39, m ≤ reachBytes) →
    ∃ r : Va, cs = cVa' r ∧ r.wf := by
  intro n0 cs x h hw
  obtain ⟨xs, n, hn, rfl, hl, hlen, hf⟩ := DataW.trod_struct Tryd.underlying39 h
  rw [varCells] at hl
  match cs, hl, xs, hlen with
  | [c0, c1, c2], _, [y0, y1, y2], _ =>
    have h0 : DataW.trod enc Tryd.prog W base sp hd n 9 [c0] = some y0 := by simpa [strCells1] using hf 0 _ rfl
    have h1 : DataW.trod enc Tryd.prog W base sp hd n 3 [c1] = some y1 := by simpa [intCells] using hf 1 _ rfl
    have h2 : DataW.trod enc Tryd.prog W base sp hd n 4 [c2] = some y2 := by simpa [boolCells] using hf 2 _ rfl
    simp only [DataW.weights, Tryd.underlying39, List.map_cons, List.map_nil, DataW.weightsEach, List.mem_append] at hw
    obtain ⟨s0, e0, rfl, w0⟩ := DataW.trod_string Tryd.underlying9 h0
    cases e0
    obtain ⟨nm, rfl⟩ := sB_of s0
    rw [sB_data] at hw
    have hn0 : nm.length ≤ 140737488355328 := by
      have := hw nm.length (.inl (by simp [DataW.weights]))
      exact Nat.le_trans this reach_eq
    obtain ⟨ini, e1, rfl, w1⟩ := DataW.trod_int Tryd.underlying3 h1
    cases e1
    obtain ⟨at1, e2, rfl⟩ := DataW.trod_bool Tryd.underlying4 h2
    cases e2
    exact ⟨⟨nm, ini, at1⟩, rfl, ⟨hn0, i64_of_wf w1⟩⟩
theorem prgCells : Tryd.prog.cellsOf 26 = 3 := by kernel_rfl
theorem fsCells : Tryd.prog.cellsOf 22 = 1 := by kernel_rfl
theorem osCells : Tryd.prog.cellsOf 23 = 1 := by kernel_rfl
theorem vsCells : Tryd.prog.cellsOf 24 = 1 := by kernel_rfl
set_option maxRecDepth 100000 in
set_option maxHeartbeats 1000000 in
/-- a program that came in -/
theorem open_pg {H : Type} {enc : TypeId × Value → H} {r : Reach} {b0 : Nat} {W : World} {base : Nat} {sp : Nat → Bool} {hd : Bool} {v : Value} {d : DataW H} {ps : List MemPlace} (hval : Value.okWide Tryd.prog W r b0 26 v)
    (h : DataW.Trod enc Tryd.prog W base sp hd 26 v d ps) (hw : ∀ n ∈ d.weights Tryd.prog 26, n ≤ reachBytes) : ∃ (p : Pg) (A : PA), v = PV p A ∧ PgAt W p A := by
  obtain ⟨cs0, rfl, hsz⟩ := okWide_struct Tryd.underlying26 hval
  obtain ⟨fuel, hf0⟩ := h
  obtain ⟨xs, n, hn, hx, hl, hlen, hf⟩ := DataW.trod_struct Tryd.underlying26 hf0
  obtain ⟨rfl, rfl⟩ := Prod.mk.inj hx
  rw [prgCells] at hl
  obtain ⟨cs⟩ := cs0
  simp only [Value.cells] at hl hf
  match cs, hl, xs, hlen with
  | [c0, c1, c2], _, [y0, y1, y2], _ =>
    have h0 : DataW.trod enc Tryd.prog W base sp hd n 22 [c0] = some y0 := by simpa [fsCells] using hf 0 _ rfl
    have h1 : DataW.trod enc Tryd.prog W base sp hd n 23 [c1] = some y1 := by simpa [osCells] using hf 1 _ rfl
    have h2 : DataW.trod enc Tryd.prog W base sp hd n 24 [c2] = some y2 := by simpa [vsCells] using hf 2 _ rfl
    simp only [DataW.weights, Tryd.underlying26, List.map_cons, List.map_nil, DataW.weightsEach, List.mem_append] at hw
    obtain ⟨fa, fc, fs, rfl, cl0, bl0, g0⟩ := (open_sl Tryd.underlying22 funCells funBytes (by decide) cFu (GoodF W) (fun _ => rfl) (open_fun W base sp hd)) h0 (fun m hm => hw m (.inl hm))
    obtain ⟨oa, oc, os, rfl, cl1, bl1, g1⟩ := (open_sl Tryd.underlying23 objCells objBytes (by decide) cOb' Ob.wf (fun _ => rfl) (open_obj W base sp hd)) h1 (fun m hm => hw m (.inr (.inl hm)))
    obtain ⟨va, vc, vs, rfl, cl2, bl2, g2⟩ := (open_sl Tryd.underlying24 varCells varBytes (by decide) cVa' Va.wf (fun _ => rfl) (open_var W base sp hd)) h2 (fun m hm => hw m (.inr (.inr (.inl hm))))
    replace bl0 := Nat.le_trans bl0 reach_eq
    replace bl1 := Nat.le_trans bl1 reach_eq
    replace bl2 := Nat.le_trans bl2 reach_eq
    refine ⟨⟨fs.map (·.1), os, vs⟩, ⟨fa, fc, oa, oc, va, vc⟩, by simp [PV], ⟨fun i hi => ?_, fun i hi => ?_, fun i hi => ?_, ⟨by show (fs.map _).length ≤ _; rw [List.length_map]; omega, by show os.length ≤ _; omega, by show vs.length ≤ _; omega, fun x hx => ?_, fun x hx => ?_, fun x hx => ?_⟩, by show (fs.map _).length ≤ _; rw [List.length_map]; exact cl0, cl1, cl2⟩⟩
    · have hi' : i < fs.length := by simpa using hi
      obtain ⟨hG, b', o', e, hc⟩ := g0 i hi'
      refine ⟨b', o', fs[i].2.1, fs[i].2.2, e, ?_, ?_⟩
      · show Fn.cells W b' (o' + i * 6) (List.map (fun r : Fn × Option Addr × Nat => r.1) fs)[i] _ _
        rw [List.getElem_map]
        exact ⟨hc 0 _ rfl, hc 1 _ rfl, hc 2 _ rfl, hc 3 _ rfl, hc 4 _ rfl, hc 5 _ rfl⟩
      · show InsRow W _ ((List.map (fun r : Fn × Option Addr × Nat => r.1) fs)[i]).code
        rw [List.getElem_map]; exact hG.2
    · obtain ⟨hG, b', o', e, hc⟩ := g1 i hi
      exact ⟨b', o', e, ⟨hc 0 _ rfl, hc 1 _ rfl, hc 2 _ rfl, hc 3 _ rfl⟩⟩
    · obtain ⟨hG, b', o', e, hc⟩ := g2 i hi
      exact ⟨b', o', e, ⟨hc 0 _ rfl, hc 1 _ rfl, hc 2 _ rfl⟩⟩
    · obtain ⟨r, hr, rfl⟩ := List.mem_map.1 hx
      obtain ⟨i, hi, rfl⟩ := List.getElem_of_mem hr
      exact (g0 i hi).1.1
    · obtain ⟨i, hi, rfl⟩ := List.getElem_of_mem hx
      exact (g1 i hi).1
    · obtain ⟨i, hi, rfl⟩ := List.getElem_of_mem hx
      exact (g2 i hi).1
end Go.Proofs.YtfkjokbhnblndaaDoor
