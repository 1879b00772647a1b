/- Lemmas and walks for the statements of this seat, part 6, merged from smaller texts: linearize, for search and Explain: plain laws, marks, the row of those that were chosen.; linearize: search. Printed by mk_lnse.py.; linearize: Search, Count.; linearize: Explain. Printed by mk_lnex.py.; linearize: the laws' helpers.; Rows of operations of the call's own.; linearize: beginning. -/
import Derived.Maps.AppendAt
import Derived.Lib.OthersKept
import Derived.Test.YtmbkjccckmlacaaDoorPart5
import Derived.Test.YtmbkjccckmlacaaDoorPart5

namespace Go.Proofs.YtmbkjccckmlacaaDoor
open Go.RowKit
set_option linter.unusedVariables false
set_option linter.unusedSimpArgs false

/-- the first next node of which p holds -/
theorem find_nxs {k z : Int} {l : List Cl} {n m : Nd} {j : Nat} (p : Nd → Bool) (hj : j < l.length) (hx : nxt k z l n j = some m) (hp : p m = true) (hb : ∀ i, i < j → ∀ m', nxt k z l n i = some m' → p m' = false) : (nxs k z l n).find? (fun q => p q.2) = some (j, m) := by
  unfold nxs
  have e : List.range l.length = List.range j ++ j :: List.range' (j + 1) (l.length - (j + 1)) := by
    have e1 : l.length = j + ((l.length - (j + 1)) + 1) := by omega
    rw [List.range_eq_range', List.range_eq_range', e1, ← List.range'_append_1, Nat.zero_add, List.range'_succ]
    have e2 : j + (l.length - (j + 1) + 1) - (j + 1) = l.length - (j + 1) := by omega
    rw [e2]
  rw [e, List.filterMap_append, List.find?_append]
  have e0 : (List.filterMap (fun i => (nxt k z l n i).map (fun m => (i, m))) (List.range j)).find? (fun q => p q.2) = none := by
    rw [List.find?_eq_none]
    intro q hq
    rw [List.mem_filterMap] at hq
    obtain ⟨i, hi, he⟩ := hq
    cases hn : nxt k z l n i with
    | none => rw [hn] at he; cases he
    | some m' =>
      rw [hn] at he
      cases he
      have := hb i (List.mem_range.1 hi) m' hn
      simpa using this
  rw [e0, List.filterMap_cons, hx]
  simp [hp]
theorem find_none {k z : Int} {l : List Cl} {n : Nd} (p : Nd → Bool) (hb : ∀ i, i < l.length → ∀ m', nxt k z l n i = some m' → p m' = false) : (nxs k z l n).find? (fun q => p q.2) = none := by
  rw [List.find?_eq_none]
  intro q hq
  obtain ⟨h1, h2⟩ := mem_nxs.1 hq
  simpa using hb q.1 h1 q.2 h2
theorem ser_step {k z : Int} {l : List Cl} {n m : Nd} {j f : Nat} (hc : cmpl l n = false) (hj : j < l.length) (hx : nxt k z l n j = some m) (hp : 0 < cnt k z l m) (hb : ∀ i, i < j → ∀ m', nxt k z l n i = some m' → cnt k z l m' = 0) : serF k z l (f + 1) n = j :: serF k z l f m := by
  rw [serF, hc, find_nxs (fun q => decide (0 < cnt k z l q)) hj hx (by simpa using hp) (fun i hi m' hm => by rw [hb i hi m' hm]; simp)]
  rfl
theorem ser_done {k z : Int} {l : List Cl} {n : Nd} {f : Nat} (hc : cmpl l n = true) : serF k z l f n = [] := by
  cases f with
  | zero => rfl
  | succ f => rw [serF, hc]; rfl
theorem cnt_zero {k z : Int} {l : List Cl} {n : Nd} (hc : cmpl l n = false) (hb : ∀ i, i < l.length → ∀ m', nxt k z l n i = some m' → cnt k z l m' = 0) : cnt k z l n = 0 := by
  rw [cnt_eq, hc]
  have : ∀ (L : List (Nat × Nd)), (∀ q ∈ L, cnt k z l q.2 = 0) → L.foldl (fun s p => min (s + cnt k z l p.2) 10001) 0 = 0 := by
    intro L
    induction L with
    | nil => intro _; rfl
    | cons q t ih =>
      intro h
      rw [List.foldl_cons, h q (by simp)]
      exact ih (fun x hx => h x (by simp [hx]))
  exact this _ (fun q hq => hb q.1 (mem_nxs.1 hq).1 q.2 (mem_nxs.1 hq).2)
/-- the loops that have been left by now: their marks -/
structure Marks (B : Nat) (ds : List Deferred) (W : World) : Prop where
  all : ∀ d ∈ ds, ∃ D, d = { target := .collected D, args := #[] } ∧ B ≤ D ∧ W.heap[D]? = some (.deferred (some []))
  dis : ds.Pairwise (fun d e => d ≠ e)
theorem Marks.nil (B : Nat) (W : World) : Marks B [] W := ⟨fun d h => (by cases h), List.Pairwise.nil⟩
theorem Marks.keep {B : Nat} {ds : List Deferred} {W W' : World} (h : Marks B ds W) (hk : ∀ D, B ≤ D → W.heap[D]? = some (.deferred (some [])) → W'.heap[D]? = some (.deferred (some []))) : Marks B ds W' :=
  ⟨fun d hd => by obtain ⟨D, e, hB, hD⟩ := h.all d hd; exact ⟨D, e, hB, hk D hB hD⟩, h.dis⟩
theorem Marks.cons {B D : Nat} {ds : List Deferred} {W : World} (h : Marks B ds W) (hB : B ≤ D) (hD : W.heap[D]? = some (.deferred (some []))) (hn : ∀ d ∈ ds, ∀ E, d = { target := .collected E, args := #[] } → E < D) : Marks B ({ target := .collected D, args := #[] } :: ds) W := by
  refine ⟨fun d hd => ?_, List.pairwise_cons.2 ⟨fun d hd e => ?_, h.dis⟩⟩
  · rcases List.mem_cons.1 hd with rfl | hd
    · exact ⟨D, rfl, hB, hD⟩
    · exact h.all d hd
  · have := hn d hd D e.symm
    omega
/-- leaving past marks: blocks from B on may turn, if they are no cells -/
theorem leaves_marks {fn : Func} {tmps : Array Value} {R : Ending → World → Prop} {B : Nat} :
    ∀ (ds : List Deferred) (W : World), Marks B ds W → (∀ W', W'.os = W.os → W'.tape = W.tape → W'.output = W.output → W.heap.size ≤ W'.heap.size → (∀ b, b < B → W'.heap[b]? = W.heap[b]?) → (∀ (b : Nat) (c : Array Value) (t : TypeId) (f : Nat × Nat), W.heap[b]? = some (.cells c t f) → W'.heap[b]? = some (.cells c t f)) → LeavesIn Fence.wide 9 Tryd.prog fn tmps R [] .returning W') → LeavesInM Fence.wide 9 Tryd.prog fn tmps R ds .returning W := by
  intro ds
  induction ds with
  | nil => exact fun W _ hK => hK W rfl rfl rfl (Nat.le_refl _) (fun _ _ => rfl) (fun _ _ _ _ h => h)
  | cons d ds ih =>
    intro W hM hK
    obtain ⟨D, rfl, hB, hD⟩ := hM.all d (by simp)
    have hg := grownBy_putObj' W D (.deferred none)
    refine ⟨by simp, .inl ⟨_, _, rfl, run_takeDeferred hD, ih _ ⟨fun d hd => ?_, (List.pairwise_cons.1 hM.dis).2⟩ fun W' h1 h2 h3 h4 h5 h6 => ?_⟩⟩
    · obtain ⟨E, rfl, hE, hED⟩ := hM.all d (by simp [hd])
      refine ⟨E, rfl, hE, (hg.block E (lt_of_block hED) (fun e => ?_)).trans hED⟩
      have := Option.some.inj e
      subst this
      exact (List.pairwise_cons.1 hM.dis).1 _ hd rfl
    · refine hK W' (h1.trans hg.os) (h2.trans hg.tape) (h3.trans hg.output) (Nat.le_trans hg.size h4) (fun b hb => (h5 b hb).trans ?_) (fun b c t f hb => h6 b c t f ?_)
      · by_cases hl : b < W.heap.size
        · exact hg.block b hl (fun e => by have := Option.some.inj e; omega)
        · have := lt_of_block hD; omega
      · refine (hg.block b (lt_of_block hb) (fun e => ?_)).trans hb
        have := Option.some.inj e
        subst this
        rw [hD] at hb; cases hb
/-- append of a number to a row, as a run -/
theorem appI_run (base : Nat) (v : Value) (l : List Int) (W : World) (h : RowI base v l W) (x : Int) (g : Nat) (hg : W.heap[g]? = some (.cells #[.int .i64 x] 3 (0, 0))) (ty : TypeId) (hlen : l.length ≤ 1000000000) (hbase : base ≤ W.heap.size) :
    ∃ v' w', (Builtin.append_ #[27, 27] ty #[v, .slice (some ⟨g, 0, none⟩) 1 1]).run Tryd.prog W = .ok v' w' ∧ RowI base v' (l ++ [x]) w' ∧ W.grownBy w' v.ownBlock ∧ (v'.ownBlock = v.ownBlock ∨ v'.ownBlock = some W.heap.size) := by
  obtain ⟨i0, hi, hz0, hz1, hz2⟩ := info_parts infoI'
  obtain ⟨v', w', h1, h2, h3, _, h5⟩ := run_append_own_at (P := Tryd.prog) W base 27 ty 3 i0 (.int .i64 0) 1 8 Tryd.underlying27 hi hz0 hz1 hz2 rfl (by decide) v l.length (l.map (Value.int .i64)) h ⟨g, 0, none⟩ 1 1 [.int .i64 x] rfl (fun j u hu => by
      match j, hu with
      | 0, hu => cases hu; exact cell_of (i := 0) hg rfl) (by simp [Value.oneCell']) (by unfold maxLen; omega) (by omega) hbase
  refine ⟨v', w', h1, ?_, h3, h5⟩
  unfold RowI
  simpa using h2
theorem RowI.kept {base : Nat} {v : Value} {l : List Int} {W w' : World} (h : RowI base v l W) (hk : ∀ g, v.ownBlock = some g → w'.heap[g]? = W.heap[g]?) : RowI base v l w' := by
  obtain ⟨h1, h2⟩ := h
  refine ⟨h1, ?_⟩
  rcases h2 with h2 | ⟨g, cap, cur, e, hg, h3, h4⟩
  · exact .inl h2
  · exact .inr ⟨g, cap, cur, e, hg, (hk g (by rw [e]; rfl)).trans h3, h4⟩
theorem RowI.blk {base : Nat} {v : Value} {l : List Int} {W : World} (h : RowI base v l W) {g : Nat} (e : v.ownBlock = some g) : g < W.heap.size := (World.ownsRow.lt h g e).2
theorem RowI.cells {W : World} {base : Nat} {v : Value} {l : List Int} (h : RowI base v l W) {j : Nat} (ej : v.ownBlock = some j) : ∃ c f, W.heap[j]? = some (.cells c 3 f) := by
  rcases h.2 with ⟨rfl, _⟩ | ⟨g, cap, cur, rfl, _, hgb, _⟩
  · simp [Value.ownBlock] at ej
  · obtain rfl : g = j := by simpa [Value.ownBlock] using ej
    exact ⟨_, _, hgb⟩
/-- the loop of those that are chosen: what is known of the memory -/
structure SrI (A : SA) (k z : Int) (l : List Cl) (w : World) (b1 b4 b5 : Nat) (n : Nd) (a : Option Addr) (c : Nat) (v : Value) (out : List Int) (X : World) : Prop where
  cm : MmA k z l (cnt k z l) X A.c1
  lm : MmA k z l (lon k z l) X A.c2
  mo : Mo A.c1 A.c2 w X
  x1 : X.heap[b1]? = some (.cells #[.pointer (some ⟨A.p, 0, none⟩)] 60 (0, 0))
  x4 : X.heap[b4]? = some (.cells #[.int .i64 (n.1 : Int), .slice a n.2.length c] tNd (0, 0))
  x5 : X.heap[b5]? = some (.cells #[v] 27 (0, 0))
  row : RowI w.heap.size v out X
  st : IntsAt X a n.2
  cl : n.2.length ≤ c
  of : n.2 ≠ [] → ∀ x, a = some x → v.ownBlock ≠ some x.block ∧ x.block ≠ b4 ∧ x.block ≠ b5
section
variable {A : SA} {k z : Int} {l : List Cl} {n : Nd} {a : Option Addr} {c : Nat} {w : World} {b1 b4 b5 : Nat} {v : Value} {out : List Int}
theorem SrI.mem {X : World} (h : SrI A k z l w b1 b4 b5 n a c v out X) (hm : Mem A k z l w) : Mem A k z l X := hm.of h.mo h.cm h.lm
/-- cells stay, and the two maps are as they were or right -/
theorem SrI.to {X Y : World} (h : SrI A k z l w b1 b4 b5 n a c v out X) (hc : ∀ (b : Nat) (cs : Array Value) (t : TypeId) (f : Nat × Nat), X.heap[b]? = some (.cells cs t f) → Y.heap[b]? = some (.cells cs t f)) (hm : Mo A.c1 A.c2 w Y) (h1 : MmA k z l (cnt k z l) Y A.c1) (h2 : MmA k z l (lon k z l) Y A.c2) : SrI A k z l w b1 b4 b5 n a c v out Y := by
  refine ⟨h1, h2, hm, hc _ _ _ _ h.x1, hc _ _ _ _ h.x4, hc _ _ _ _ h.x5, h.row.kept (fun g e => ?_), fun i hi => ?_, h.cl, h.of⟩
  · obtain ⟨cs, f, hg⟩ := h.row.cells e
    rw [hg]; exact hc _ _ _ _ hg
  · obtain ⟨b, off, e, hq⟩ := h.st i hi
    refine ⟨b, off, e, ?_⟩
    have hb : ∃ c t f, X.heap[b]? = some (.cells c t f) := by
      unfold World.cell? at hq
      split at hq
      · rename_i hx; exact ⟨_, _, _, hx⟩
      · cases hq
    obtain ⟨c, t, f, hb⟩ := hb
    have hy := hc _ _ _ _ hb
    unfold World.cell? at hq ⊢
    dsimp only at hq ⊢
    rw [hy]; rw [hb] at hq; exact hq
theorem SrI.own (B : Nat) (hB : w.heap.size ≤ B) (h1 : A.c1 < B) (h2 : A.c2 < B) {β : Type} : OwnFrom B (fun (_ : β) X => SrI A k z l w b1 b4 b5 n a c v out X) := by
  intro j X Y row h hg hr
  have hk : ∀ b, b < B → b < X.heap.size → Y.heap[b]? = X.heap[b]? := fun b hb hz => hg.block b hz (fun e => by have := (hr b e.symm).1; omega)
  refine h.to (fun b cs t f hb => (hg.block b (lt_of_block hb) (fun e => by
    obtain ⟨-, o, h3, h4⟩ := hr _ e.symm
    rw [hb] at h3; cases h3; cases h4)).trans hb) ⟨hg.os.trans h.mo.os, hg.tape.trans h.mo.tape, hg.output.trans h.mo.output, Nat.le_trans h.mo.size hg.size, fun b hb e1 e2 => (hk b (by omega) (Nat.lt_of_lt_of_le hb h.mo.size)).trans (h.mo.block b hb e1 e2)⟩ (h.cm.block (hk _ h1 h.cm.lt)) (h.lm.block (hk _ h2 h.lm.lt))
theorem SrI.ext {X Y : World} (h : SrI A k z l w b1 b4 b5 n a c v out X) (hE : Ext X Y) : SrI A k z l w b1 b4 b5 n a c v out Y :=
  h.to (fun b cs t f hb => (hE.below.block _ (lt_of_block hb)).trans hb) (h.mo.trans (Mo.of_ext hE)) (h.cm.ext hE) (h.lm.ext hE)
theorem SrI.mv {X Y : World} (h : SrI A k z l w b1 b4 b5 n a c v out X) (hm : Mem A k z l w) (hv : Mv A k z l X Y) : SrI A k z l w b1 b4 b5 n a c v out Y :=
  have hx := h.mem hm
  have hy := hv.2 hx
  h.to (fun b cs t f hb => hv.1.cells hx hb) (h.mo.trans hv.1) hy.cm hy.lm

theorem row_ne {B : Nat} {X : World} {b : Nat} {cs : Array Value} {t : TypeId} {f : Nat × Nat} (h : RowI B v out X) (hb : X.heap[b]? = some (.cells cs t f)) (ht : t ≠ 3) : some b ≠ v.ownBlock := fun e => by
  obtain ⟨cs', f', hg⟩ := h.cells e.symm
  rw [hb] at hg
  cases hg
  exact ht rfl
/-- the loop over the next nodes -/
structure SrJ (A : SA) (k z : Int) (l : List Cl) (w : World) (b1 b4 b5 : Nat) (n : Nd) (a : Option Addr) (c : Nat) (v : Value) (out : List Int) (P : Nd → Bool) (bs bn : Nat) (W2 : World) (j : Nat) (X : World) : Prop where
  s : SrI A k z l w b1 b4 b5 n a c v out X
  bs : X.heap[bs]? = some (.cells #[.pointer (some ⟨A.p, 0, none⟩)] 60 (0, 0))
  bn : X.heap[bn]? = some (.cells #[.int .i64 (n.1 : Int), .slice a n.2.length c] tNd (0, 0))
  sz : W2.heap.size ≤ X.heap.size
  md : ∀ D : Nat, W2.heap[D]? = some (.deferred (some [])) → X.heap[D]? = some (.deferred (some []))
  nx : ∀ i, i < j → ∀ m', nxt k z l n i = some m' → P m' = false
/-- the loop has been left -/
structure SrB (A : SA) (k z : Int) (l : List Cl) (w : World) (b1 b4 b5 : Nat) (n : Nd) (out : List Int) (P : Nd → Bool) (W2 : World) (X : World) : Prop where
  md : ∀ D : Nat, W2.heap[D]? = some (.deferred (some [])) → X.heap[D]? = some (.deferred (some []))
  at_ : ∃ (j : Nat) (m : Nd) (a : Option Addr) (c : Nat) (v : Value), j < l.length ∧ nxt k z l n j = some m ∧ P m = true ∧ (∀ i, i < j → ∀ m', nxt k z l n i = some m' → P m' = false) ∧ SrI A k z l w b1 b4 b5 m a c v (out ++ [(j : Int)]) X
theorem own_mk {W2 X Y : World} {B : Nat} {row : Option Nat} (hB : W2.heap.size ≤ B) (h : ∀ D : Nat, W2.heap[D]? = some (.deferred (some [])) → X.heap[D]? = some (.deferred (some []))) (hg : X.grownBy Y row) (hr : ∀ r, row = some r → B ≤ r ∧ ∃ o : Obj, X.heap[r]? = some o ∧ o.isCells = false) : ∀ D : Nat, W2.heap[D]? = some (.deferred (some [])) → Y.heap[D]? = some (.deferred (some [])) := fun D hD =>
  (hg.block D (lt_of_block (h D hD)) (fun e => by have := (hr D e.symm).1; have := lt_of_block hD; omega)).trans (h D hD)
theorem SrJ.own {P : Nd → Bool} {bs bn : Nat} {W2 : World} (B : Nat) (hB : W2.heap.size ≤ B) (hw : w.heap.size ≤ B) (h1 : A.c1 < B) (h2 : A.c2 < B) : OwnFrom B (fun j X => SrJ A k z l w b1 b4 b5 n a c v out P bs bn W2 j X) := by
  intro j X Y row h hg hr
  exact ⟨SrI.own B hw h1 h2 () X Y row h.s hg hr, own_cells B () X Y row h.bs hg hr, own_cells B () X Y row h.bn hg hr, Nat.le_trans h.sz hg.size, own_mk hB h.md hg hr, h.nx⟩
theorem SrB.own {P : Nd → Bool} {W2 : World} (B : Nat) (hB : W2.heap.size ≤ B) (hw : w.heap.size ≤ B) (h1 : A.c1 < B) (h2 : A.c2 < B) {β : Type} : OwnFrom B (fun (_ : β) X => SrB A k z l w b1 b4 b5 n out P W2 X) := by
  intro j X Y row h hg hr
  obtain ⟨j', m, a', c', v', q1, q2, q3, q4, q5⟩ := h.at_
  exact ⟨own_mk hB h.md hg hr, j', m, a', c', v', q1, q2, q3, q4, SrI.own B hw h1 h2 () X Y row q5 hg hr⟩
theorem SrJ.ext {P : Nd → Bool} {bs bn : Nat} {W2 : World} {j : Nat} {X Y : World} (h : SrJ A k z l w b1 b4 b5 n a c v out P bs bn W2 j X) (hE : Ext X Y) : SrJ A k z l w b1 b4 b5 n a c v out P bs bn W2 j Y :=
  ⟨h.s.ext hE, (hE.below.block _ (lt_of_block h.bs)).trans h.bs, (hE.below.block _ (lt_of_block h.bn)).trans h.bn, Nat.le_trans h.sz hE.size, fun D hD => (hE.below.block _ (lt_of_block (h.md D hD))).trans (h.md D hD), h.nx⟩
theorem Mo.md {X Y W2 : World} (h : Mo A.c1 A.c2 X Y) (hx : Mem A k z l X) (hk : ∀ D : Nat, W2.heap[D]? = some (.deferred (some [])) → X.heap[D]? = some (.deferred (some []))) : ∀ D : Nat, W2.heap[D]? = some (.deferred (some [])) → Y.heap[D]? = some (.deferred (some [])) := fun D hD => by
  have hd := hk D hD
  obtain ⟨e1, q1, m1⟩ := hx.cm.map
  obtain ⟨e2, q2, m2⟩ := hx.lm.map
  refine (h.block D (lt_of_block hd) (fun e => ?_) (fun e => ?_)).trans hd
  · rw [← e, hd] at m1; cases m1
  · rw [← e, hd] at m2; cases m2
theorem SrJ.mv {P : Nd → Bool} {bs bn : Nat} {W2 : World} {j : Nat} {X Y : World} (h : SrJ A k z l w b1 b4 b5 n a c v out P bs bn W2 j X) (hm : Mem A k z l w) (hv : Mv A k z l X Y) : SrJ A k z l w b1 b4 b5 n a c v out P bs bn W2 j Y := by
  have hx := h.s.mem hm
  exact ⟨h.s.mv hm hv, hv.1.cells hx h.bs, hv.1.cells hx h.bn, Nat.le_trans h.sz hv.1.size, hv.1.md hx h.md, h.nx⟩
theorem SrJ.step {P : Nd → Bool} {bs bn : Nat} {W2 : World} {j : Nat} {X : World} (h : SrJ A k z l w b1 b4 b5 n a c v out P bs bn W2 j X) (hj : ∀ m', nxt k z l n j = some m' → P m' = false) : SrJ A k z l w b1 b4 b5 n a c v out P bs bn W2 (j + 1) X :=
  ⟨h.s, h.bs, h.bn, h.sz, h.md, fun i hi m' hm => by
    rcases Nat.lt_or_ge i j with h0 | h0
    · exact h.nx i h0 m' hm
    · obtain rfl : i = j := by omega
      exact hj m' hm⟩
theorem SrJ.rd {P : Nd → Bool} {bs bn : Nat} {W2 : World} {j B : Nat} {X : World} (h : SrJ A k z l w b1 b4 b5 n a c v out P bs bn W2 j X) (hm : Mem A k z l w) (hB : B ≤ W2.heap.size) : RdX A k z l n a c bs bn B X := ⟨(h.s.mem hm).sr, h.bs, h.bn, h.s.st, Nat.le_trans hB h.sz⟩
/-- all blocks but the row's and b5 stay -/
structure GrV (v : Value) (b5 : Nat) (W W' : World) : Prop where
  os : W'.os = W.os
  tape : W'.tape = W.tape
  output : W'.output = W.output
  size : W.heap.size ≤ W'.heap.size
  block : ∀ b, b < W.heap.size → some b ≠ v.ownBlock → b ≠ b5 → W'.heap[b]? = W.heap[b]?
theorem GrV.refl (v : Value) (b5 : Nat) (W : World) : GrV v b5 W W := ⟨rfl, rfl, rfl, Nat.le_refl _, fun _ _ _ _ => rfl⟩
theorem GrV.trans {v : Value} {b5 : Nat} {X Y Z : World} (h : GrV v b5 X Y) (g : GrV v b5 Y Z) : GrV v b5 X Z := ⟨g.os.trans h.os, g.tape.trans h.tape, g.output.trans h.output, Nat.le_trans h.size g.size, fun b hb hn h5 => (g.block b (Nat.lt_of_lt_of_le hb h.size) hn h5).trans (h.block b hb hn h5)⟩
theorem GrV.of_ext {v : Value} {b5 : Nat} {X Y : World} (h : Ext X Y) : GrV v b5 X Y := ⟨h.os, h.tape, h.output, h.size, fun b hb _ _ => h.below.block b hb⟩
theorem GrV.of_grown {v : Value} {b5 : Nat} {X Y : World} (h : X.grownBy Y v.ownBlock) : GrV v b5 X Y := ⟨h.os, h.tape, h.output, h.size, fun b hb hn _ => h.block b hb hn⟩
theorem GrV.set {v : Value} {b5 : Nat} (X : World) (x : Value) : GrV v b5 X (X.setCell ⟨b5, 0, none⟩ x) :=
  have h := (Below.refl 0 X).setCell (p := ⟨b5, 0, none⟩) (Nat.zero_le _) x
  ⟨h.os, h.tape, h.output, h.size, fun b hb _ hn => Below.heap_setCell _ ⟨b5, 0, none⟩ _ _ hn⟩
/-- the row, and the box of the row, while a number is appended: op 3 appends, op 5 stores -/
structure JB (B S b5 : Nat) (v : Value) (l m : List Int) (listed : Array Bool) (s : Nat → Value) (W : World) : Prop where
  r0 : listed.getD 3 false = false → RowI B v l W
  r1 : listed.getD 3 false = true → RowI B (s 3) m W ∧ ((s 3).ownBlock = v.ownBlock ∨ ∃ g, (s 3).ownBlock = some g ∧ S ≤ g)
  c0 : listed.getD 5 false = false → W.heap[b5]? = some (.cells #[v] 27 (0, 0))
  c1 : listed.getD 5 false = true → listed.getD 0 false = true ∧ listed.getD 3 false = true ∧ W.heap[b5]? = some (.cells #[s 3] 27 (0, 0))
theorem JB.init {B S b5 : Nat} {v : Value} {l m : List Int} (n : Nat) (s : Nat → Value) {W : World} (h : RowI B v l W) (h5 : W.heap[b5]? = some (.cells #[v] 27 (0, 0))) : JB B S b5 v l m (Array.replicate n false) s W :=
  ⟨fun _ => h, fun e => (by rw [getD_rep] at e; cases e), fun _ => h5, fun e => (by rw [getD_rep] at e; cases e)⟩
theorem JB.other {B S b5 i : Nat} {v : Value} {l m : List Int} {listed : Array Bool} {s s' : Nat → Value} {W W' : World} (h : JB B S b5 v l m listed s W) (h3 : i ≠ 3) (h5 : i ≠ 5) (hs : ∀ k, k ≠ i → s' k = s k) (hE : Ext W W') : JB B S b5 v l m (listed.setIfInBounds i true) s' W' := by
  refine ⟨fun e => ?_, fun e => ?_, fun e => ?_, fun e => ?_⟩
  · rw [getD_setN h3] at e; exact (h.r0 e).ext hE
  · rw [getD_setN h3] at e; rw [hs 3 (Ne.symm h3)]; exact ⟨(h.r1 e).1.ext hE, (h.r1 e).2⟩
  · rw [getD_setN h5] at e; exact (hE.below.block _ (lt_of_block (h.c0 e))).trans (h.c0 e)
  · rw [getD_setN h5] at e
    obtain ⟨q0, q3, q5⟩ := h.c1 e
    rw [hs 3 (Ne.symm h3)]
    refine ⟨getD_set_true q0, getD_set_true q3, (hE.below.block _ (lt_of_block q5)).trans q5⟩
theorem JB.app {B S b5 : Nat} {v : Value} {l m : List Int} {listed : Array Bool} {s s' : Nat → Value} {W W' : World} (h : JB B S b5 v l m listed s W) (hn : listed.getD 3 false = false) (hsz : 3 < listed.size) (hg : W.grownBy W' v.ownBlock) (hr : RowI B (s' 3) m W') (ho : (s' 3).ownBlock = v.ownBlock ∨ ∃ g, (s' 3).ownBlock = some g ∧ S ≤ g) : JB B S b5 v l m (listed.setIfInBounds 3 true) s' W' := by
  have h5 : listed.getD 5 false = false := by
    cases e : listed.getD 5 false with
    | false => rfl
    | true => have := (h.c1 e).2.1; rw [hn] at this; cases this
  have hc := h.c0 h5
  refine ⟨fun e => ?_, fun _ => ⟨hr, ho⟩, fun _ => (hg.block _ (lt_of_block hc) (row_ne (h.r0 hn) hc (by decide))).trans hc, fun e => ?_⟩
  · rw [getD_setS hsz] at e; cases e
  · rw [getD_setN (by decide), h5] at e; cases e
theorem JB.store {B S b5 : Nat} {v : Value} {l m : List Int} {listed : Array Bool} {s s' : Nat → Value} {W : World} (h : JB B S b5 v l m listed s W) (hn : listed.getD 5 false = false) (hsz : 5 < listed.size) (h0 : listed.getD 0 false = true) (h3 : listed.getD 3 false = true) (hs : ∀ k, k ≠ 5 → s' k = s k) : JB B S b5 v l m (listed.setIfInBounds 5 true) s' (W.setCell ⟨b5, 0, none⟩ (s 3)) := by
  have hc := h.c0 hn
  have hr := h.r1 h3
  have e3 := hs 3 (by decide)
  refine ⟨fun e => ?_, fun _ => ?_, fun e => ?_, fun _ => ⟨getD_set_true h0, getD_set_true h3, ?_⟩⟩
  · rw [getD_setN (by decide), h3] at e; cases e
  · rw [e3]
    exact ⟨hr.1.kept (fun g e => Below.heap_setCell _ ⟨b5, 0, none⟩ _ _ (fun e5 => by
      obtain ⟨cs, f, hq⟩ := hr.1.cells e
      rw [e5, hc] at hq; simp at hq)), hr.2⟩
  · rw [getD_setS hsz] at e; cases e
  · rw [e3]
    have hT : Turn b5 (.cells #[s 3] 27 (0, 0)) W (W.setCell ⟨b5, 0, none⟩ (s 3)) := (Turn.refl hc).setCell (i := 0) (s 3)
    exact hT.here
/-- the memory after the region -/
theorem SrI.next2 {X Y : World} {v' : Value} {out' : List Int} {n1 : Nd} {a1 : Option Addr} {c1 : Nat} (h : SrI A k z l w b1 b4 b5 n a c v out X) (hm : Mem A k z l w) (hg : GrV v b5 X Y) (hr : RowI w.heap.size v' out' Y) (h5 : Y.heap[b5]? = some (.cells #[v'] 27 (0, 0))) (ho : v'.ownBlock = v.ownBlock ∨ ∃ g, v'.ownBlock = some g ∧ X.heap.size ≤ g)
    (hA : IntsAt X a1 n1.2) (hc : n1.2.length ≤ c1) (hof : n1.2 ≠ [] → ∀ x, a1 = some x → v.ownBlock ≠ some x.block ∧ x.block ≠ b4 ∧ x.block ≠ b5) (hb4 : w.heap.size ≤ b4) (hb5 : w.heap.size ≤ b5) :
    SrI A k z l w b1 b4 b5 n1 a1 c1 v' out' ((Y.setCell ⟨b4, 0, none⟩ (.int .i64 (n1.1 : Int))).setCell ⟨b4, 1, none⟩ (.slice a1 n1.2.length c1)) := by
  have hne45 : b4 ≠ b5 := fun e => by have := h.x4; rw [e, h.x5] at this; simp at this
  have hn14 : b1 ≠ b4 := fun e => by have := h.x1; rw [e, h.x4] at this; simp at this
  have hn15 : b1 ≠ b5 := fun e => by have := h.x1; rw [e, h.x5] at this; simp at this
  have l1 := hm.cm.lt
  have l2 := hm.lm.lt
  have k1 : some b1 ≠ v.ownBlock := row_ne h.row h.x1 (by decide)
  have k4 : some b4 ≠ v.ownBlock := row_ne h.row h.x4 (by decide)
  have kc : ∀ b es cl, X.heap[b]? = some (.map es cl) → some b ≠ v.ownBlock := fun b es cl hb e => by
    obtain ⟨cs', f', hg'⟩ := h.row.cells e.symm
    rw [hb] at hg'; cases hg'
  obtain ⟨e1, q1, m1⟩ := h.cm.map
  obtain ⟨e2, q2, m2⟩ := h.lm.map
  have hY : ∀ b, b < X.heap.size → some b ≠ v.ownBlock → b ≠ b5 → Y.heap[b]? = X.heap[b]? := fun b hb hn h5 => hg.block b hb hn h5
  have ho2 : ∀ b, b ≠ b4 → ((Y.setCell ⟨b4, 0, none⟩ (.int .i64 (n1.1 : Int))).setCell ⟨b4, 1, none⟩ (.slice a1 n1.2.length c1)).heap[b]? = Y.heap[b]? := fun b h4 => by
    rw [Below.heap_setCell _ ⟨b4, 1, none⟩ _ _ h4, Below.heap_setCell _ ⟨b4, 0, none⟩ _ _ h4]
  have hbel : Below w.heap.size Y ((Y.setCell ⟨b4, 0, none⟩ (.int .i64 (n1.1 : Int))).setCell ⟨b4, 1, none⟩ (.slice a1 n1.2.length c1)) :=
    ((Below.refl w.heap.size Y).setCell (p := ⟨b4, 0, none⟩) hb4 _).setCell (p := ⟨b4, 1, none⟩) hb4 _
  have y4 : Y.heap[b4]? = some (.cells #[.int .i64 (n.1 : Int), .slice a n.2.length c] tNd (0, 0)) := (hY _ (lt_of_block h.x4) k4 hne45).trans h.x4
  obtain ⟨W', hW', g4, -, g6⟩ := put2 y4 rfl (.int .i64 (n1.1 : Int)) (.slice a1 n1.2.length c1)
  rw [hW'] at ho2 hbel ⊢
  refine ⟨h.cm.block ((ho2 _ (by omega)).trans (hY _ (lt_of_block m1) (kc _ _ _ m1) (by omega))), h.lm.block ((ho2 _ (by omega)).trans (hY _ (lt_of_block m2) (kc _ _ _ m2) (by omega))),
    ⟨hbel.os.trans (hg.os.trans h.mo.os), hbel.tape.trans (hg.tape.trans h.mo.tape), hbel.output.trans (hg.output.trans h.mo.output), Nat.le_trans h.mo.size (Nat.le_trans hg.size hbel.size), fun b hb e1 e2 => ?_⟩,
    (ho2 _ hn14).trans ((hY _ (lt_of_block h.x1) k1 hn15).trans h.x1), g4, (g6 _ (Ne.symm hne45)).trans h5, hr.kept (fun g e => ?_), fun i hi => ?_, hc, fun hne x e => ?_⟩
  · rw [hbel.block b hb, hY b (Nat.lt_of_lt_of_le hb h.mo.size) (fun e => by have := (World.ownsRow.lt h.row b e.symm).1; omega) (by omega)]
    exact h.mo.block b hb e1 e2
  · obtain ⟨cs, f, hq⟩ := hr.cells e
    refine ho2 g (fun e4 => ?_)
    rw [e4, y4] at hq; simp only [Option.some.injEq, Obj.cells.injEq] at hq; exact absurd hq.2.1 (by decide)
  · obtain ⟨b, off, e, hq⟩ := hA i hi
    obtain ⟨o1, o2, o3⟩ := hof (by intro h0; rw [h0] at hi; simp at hi) _ e
    refine ⟨b, off, e, ?_⟩
    have hlt := cell_lt hq
    have hb : W'.heap[b]? = X.heap[b]? := (ho2 b o2).trans (hY b hlt (Ne.symm o1) o3)
    unfold World.cell? at hq ⊢
    dsimp only at hq ⊢
    rw [hb]; exact hq
  · obtain ⟨o1, o2, o3⟩ := hof hne x e
    refine ⟨?_, o2, o3⟩
    rcases ho with ho | ⟨g, ho, hg2⟩
    · rw [ho]; exact o1
    · rw [ho]
      intro h0
      have h0 := Option.some.inj h0
      cases hl : n1.2 with
      | nil => exact hne hl
      | cons y t =>
        obtain ⟨b, off, e', hq⟩ := hA 0 (by rw [hl]; simp)
        rw [e] at e'
        cases e'
        have := cell_lt hq
        dsimp only at h0 this
        omega
end
end Go.Proofs.YtmbkjccckmlacaaDoor

namespace Go.Proofs.YtmbkjccckmlacaaDoor
open Go.RowKit
set_option linter.unusedVariables false
set_option linter.unusedSimpArgs false
attribute [local go_sem] Oper.semAt_some

/-- what search gives -/
def SeP (A : SA) (k z : Int) (l : List Cl) (w : World) (e : Ending) (w' : World) : Prop := ∃ v, e = .returned (.tuple #[v, .bool (serR k z l).2]) ∧ RowI w.heap.size v ((serR k z l).1.map Int.ofNat) w' ∧ Mem A k z l w' ∧ Mo A.c1 A.c2 w w'
def muC (l : List Cl) (b4 : Nat) (W : World) : Nat := match W.cell? ⟨b4, 0, none⟩ with
  | some (.int _ s) => lft l (s.toNat, [])
  | _ => 0
theorem lft_cell (l : List Cl) (n : Nd) : lft l (((n.1 : Nat) : Int).toNat, []) = lft l n := by unfold lft; simp
theorem muC_at {l : List Cl} {b4 : Nat} {W : World} {n : Nd} (h : W.cell? ⟨b4, 0, none⟩ = some (.int .i64 (n.1 : Int))) : muC l b4 W = lft l n := by unfold muC; rw [h]; exact lft_cell l n
set_option maxRecDepth 100000 in
set_option maxHeartbeats 4000000 in
theorem search_any {A : SA} {k z : Int} {l : List Cl} (hl : l.length ≤ 12) (hk1 : 1 ≤ k) (hk6 : k ≤ 6) (hen : ∀ i (hi : i < l.length), -1 ≤ l[i].en) (hmd : mdE k z = 0) (w : World) (hM : Mem A k z l w) :
    Calls Tryd.prog 33 #[.pointer (some ⟨A.p, 0, none⟩)] w (SeP A k z l w) := by
  have HM := Lib.hid hM
  have HG0 := Lib.hid (Gd.beg0 l hmd)
  have HBG := Lib.hid (fun W (hW : Ext w W) => begin_any (hM.sr.ext hW))
  have HSR := Lib.hid (show serR k z l = if cnt k z l (beg0 k) = 0 then ([], false) else (serF k z l (l.length + 1) (beg0 k), true) from rfl)
  generalize hb0 : beg0 k = n0 at *
  clear hb0 hM
  unfold SeP
  generalize serR k z l = SS at *
  obtain ⟨S, fd⟩ := SS
  dsimp only
  obtain ⟨w1, hw1⟩ : ∃ W, W = w.alloc (.cells #[.pointer (some ⟨A.p, 0, none⟩)] 60) := ⟨_, rfl⟩
  have hw1' := hw1.symm
  have HE1 := Lib.hid (show Ext w w1 by rw [hw1]; exact ext_allocN w _)
  have B1 := Lib.hid (show w1.heap[w.heap.size]? = some (.cells #[.pointer (some ⟨A.p, 0, none⟩)] 60 (0, 0)) by rw [hw1]; exact alloc_here _ _)
  have HZ1 := Lib.hid (show w1.heap.size = w.heap.size + 1 by rw [hw1]; simp)
  have x1 := cell_of B1.out (i := 0) rfl
  clear hw1
  refine (callsIn_wide (n := 9)).1 ?_
  refine callsIn_of_wp_marks Tryd.func33 rfl trivial ?_ rfl
  simp only [Tryd.ntmps33, List.size_toArray, List.length_cons, List.length_nil, Nat.reduceAdd, Nat.reduceSub, Array.replicate_succ, Array.replicate_zero, List.push_toArray, List.append_toArray, List.nil_append, List.cons_append]
  gi_wp2_with (fail)
  try rw [hw1']
  refine ⟨trivial, callsIn_wide.2 ((HBG.out _ HE1.out).mono ?_)⟩
  rintro e w2 ⟨a0, c0, rfl, hi0, hc0, hE⟩
  have HE2 := Lib.hid (Ext.trans HE1.out hE)
  have HE12 := Lib.hid hE
  have HI0 := Lib.hid hi0
  have hz2 : w.heap.size < w2.heap.size := by have := HZ1.out; have := hE.size; omega
  have x1 := cell_of ((hE.below.block _ (lt_of_block B1.out)).trans B1.out) (i := 0) rfl
  clear hE hi0
  gi_wp2_with (fail)
  obtain ⟨b4, hb4⟩ : ∃ b, b = w2.heap.size := ⟨_, rfl⟩
  obtain ⟨w3, hw3⟩ : ∃ W, W = w2.alloc (.cells #[.int .i64 (n0.1 : Int), .slice a0 n0.2.length c0] tNd) := ⟨_, rfl⟩
  rw [← hw3, ← hb4]
  have HE23 := Lib.hid (show Ext w2 w3 by rw [hw3]; exact ext_allocN _ _)
  have HE3 := Lib.hid (Ext.trans HE2.out HE23.out)
  have B4 := Lib.hid (show w3.heap[b4]? = some (.cells #[.int .i64 (n0.1 : Int), .slice a0 n0.2.length c0] tNd (0, 0)) by rw [hw3, hb4]; exact alloc_here _ _)
  have HZ4 := Lib.hid (show w.heap.size < b4 from by rw [hb4]; exact hz2)
  have HO0 := Lib.hid (show n0.2 ≠ [] → ∀ x, a0 = some x → x.block < b4 from fun hne x e => by
    cases hn : n0.2 with
    | nil => exact absurd hn hne
    | cons y t =>
      obtain ⟨b, off, e', hq⟩ := HI0.out 0 (by rw [hn]; simp)
      rw [e] at e'
      cases e'
      have := cell_lt hq
      rw [hb4]; exact this)
  clear hw3 hb4 hz2 x1
  have B13 := Lib.hid ((Ext.trans HE12.out HE23.out).below.block _ (lt_of_block B1.out) |>.trans B1.out)
  have x1 := cell_of B13.out (i := 0) rfl
  have x40 := cell_of B4.out (i := 0) rfl
  have x41 := cell_of B4.out (i := 1) rfl
  refine ⟨trivial, callsIn_wide.2 ((count_any hl hk1 hk6 hen _ n0 a0 c0 w3 rfl (HM.out.ext HE3.out) HG0.out (HI0.out.ext HE23.out) hc0).mono ?_)⟩
  rintro e w4 ⟨rfl, hm4, hmo4⟩
  have HM4 := Lib.hid hm4
  have HMO4 := Lib.hid hmo4
  have HMW := Lib.hid ((Mo.of_ext HE3.out).trans hmo4)
  clear hm4 hmo4 x1 x40 x41
  by_cases hq : cnt k z l n0 = 0
  · have HSS := Lib.hid (show (S, fd) = ([], false) by rw [HSR.out, if_pos hq])
    rw [hq]
    clear hq
    gi_wp2
    have hs := HSS.out
    cases hs
    exact ⟨.tuple #[.slice none 0 0, .bool false], by simp [results, Tryd.f33, go_sem], _, rfl, RowI.nil _ _, HM4.out, HMW.out⟩
  have HSS := Lib.hid (show (S, fd) = (serF k z l (l.length + 1) n0, true) by rw [HSR.out, if_neg hq])
  have g0 : (((cnt k z l n0 : Nat) : Int) == 0) = false := by rw [beq_eq_false_iff_ne]; omega
  have HQ := Lib.hid hq
  clear hq
  gi_wp2_with (fail)
  obtain ⟨b5, hb5⟩ : ∃ b, b = w4.heap.size := ⟨_, rfl⟩
  obtain ⟨w5, hw5⟩ : ∃ W, W = w4.alloc (.cells #[.slice none 0 0] 27) := ⟨_, rfl⟩
  rw [← hw5, ← hb5]
  have HE45 := Lib.hid (show Ext w4 w5 by rw [hw5]; exact ext_allocN _ _)
  have B5 := Lib.hid (show w5.heap[b5]? = some (.cells #[.slice none 0 0] 27 (0, 0)) by rw [hw5, hb5]; exact alloc_here _ _)
  have hM3 := HM.out.ext HE3.out
  have HB45 := Lib.hid (show b4 < b5 by rw [hb5]; exact lt_of_block (HMO4.out.cells hM3 B4.out))
  have HS0 := Lib.hid (show SrI A k z l w w.heap.size b4 b5 n0 a0 c0 (.slice none 0 0) (([] : List Nat).map Int.ofNat) w5 from by
    have h1 := HMO4.out.cells hM3 B13.out
    have h4 := HMO4.out.cells hM3 B4.out
    refine ⟨HM4.out.cm.ext HE45.out, HM4.out.lm.ext HE45.out, HMW.out.trans (Mo.of_ext HE45.out), (HE45.out.below.block _ (lt_of_block h1)).trans h1, (HE45.out.below.block _ (lt_of_block h4)).trans h4, B5.out, RowI.nil _ _, (HMO4.out.ints hM3 (HI0.out.ext HE23.out)).ext HE45.out, hc0, fun hne x e => ⟨by simp [Value.ownBlock], ?_, ?_⟩⟩
    · have := HO0.out hne x e; omega
    · have := HO0.out hne x e; have := HB45.out; omega)
  have hbw5 : w.heap.size ≤ b5 := by have := HZ4.out; have := HB45.out; omega
  have hbw4 : w.heap.size ≤ b4 := Nat.le_of_lt HZ4.out
  have hz5 : b5 < w5.heap.size := lt_of_block B5.out
  have hSf := HSS.out
  have HSD := Lib.hid (Prod.mk.inj hSf).1.symm
  have HFD := Lib.hid (show fd = true from (Prod.mk.inj hSf).2)
  clear hSf hM3 hw5 hb5 HSS HSR
  gi_wp2_with (fail)
  refine wpIn_loop (fun a' W' => ∃ (n : Nd) (a : Option Addr) (c : Nat) (v : Value) (out : List Nat) (f : Nat) (u6 u7 u8 u9 u10 u11 u12 u13 u14 u15 u16 u17 u18 u19 u20 u21 u22 u23 u24 u25 u26 u27 u28 u29 u30 u31 u32 : Value) (ds : List Deferred), a' = { tmps := #[.pointer (some ⟨A.p, 0, none⟩), .pointer (some ⟨w.heap.size, 0, none⟩), .slice none 0 0, .bool false, .pointer (some ⟨b4, 0, none⟩), .pointer (some ⟨b5, 0, none⟩), u6, u7, u8, u9, u10, u11, u12, u13, u14, u15, u16, u17, u18, u19, u20, u21, u22, u23, u24, u25, u26, u27, u28, u29, u30, u31, u32], defers := ds } ∧ SrI A k z l w w.heap.size b4 b5 n a c v (out.map Int.ofNat) W' ∧ Gd k z l n ∧ 0 < cnt k z l n ∧ lft l n < f ∧ out ++ serF k z l f n = S ∧ Marks w.heap.size ds W' ∧ out.length + lft l n ≤ l.length ∧ b5 < W'.heap.size) (fun _ W' => muC l b4 W') ?start ?round
  case start =>
    exact ⟨n0, a0, c0, .slice none 0 0, [], l.length + 1, _, _, _, _, _, _, _, _, _, _, _, _, _, _, _, _, _, _, _, _, _, _, _, _, _, _, _, [], rfl, HS0.out, HG0.out, by have := HQ.out; omega, by have := lft_le l n0; omega, by rw [List.nil_append]; exact HSD.out, Marks.nil _ _, by have := lft_le l n0; simpa using this, hz5⟩
  case round =>
    rintro aa W ⟨n, a, c, v, out, f, u6, u7, u8, u9, u10, u11, u12, u13, u14, u15, u16, u17, u18, u19, u20, u21, u22, u23, u24, u25, u26, u27, u28, u29, u30, u31, u32, ds, rfl, hS, hg, hp, hf, hout, hmk, hln, hb5z⟩
    have HS := Lib.hid hS
    have HG := Lib.hid hg
    have HP := Lib.hid hp
    have HF := Lib.hid hf
    have HO := Lib.hid hout
    have HMK := Lib.hid hmk
    have HLN := Lib.hid hln
    have HB5Z := Lib.hid hb5z
    have HMW0 := Lib.hid (hS.mem HM.out)
    have q1 := cell_of hS.x1 (i := 0) rfl
    have q40 := cell_of hS.x4 (i := 0) rfl
    have q41 := cell_of hS.x4 (i := 1) rfl
    have q5 := cell_of hS.x5 (i := 0) rfl
    clear hS hg hp hf hout hmk hln hb5z
    obtain ⟨μ0, hμ⟩ : ∃ μ0, lft l n = μ0 := ⟨_, rfl⟩
    have HMU := Lib.hid hμ
    clear hμ
    rw [(muC_at q40).trans HMU.out]
    cases hcm : cmpl l n with
    | true =>
      have HSE := Lib.hid (show out = S by rw [← HO.out, ser_done hcm, List.append_nil])
      have HCP := Lib.hid (show Gives Tryd.prog 60 #[.pointer (some ⟨A.p, 0, none⟩), .agg #[.int .i64 (n.1 : Int), .slice a n.2.length c]] W (.bool true) from by rw [← hcm]; exact complete_any HMW0.out.sr n a c HG.out.lt hl)
      clear hcm
      gi_wp2_with (fail)
      refine ⟨trivial, callsIn_wide.2 (HCP.out.mono ?_)⟩
      intro W1 hE
      have HS1 := Lib.hid (HS.out.ext hE)
      have HMK1 := Lib.hid (HMK.out.keep (W' := W1) (fun D _ hD => ((show Ext _ _ from hE).below.block _ (lt_of_block hD)).trans hD))
      have q5 := cell_of HS1.out.x5 (i := 0) rfl
      clear hE q1 q40 q41
      gi_wp2
      refine leaves_marks ds W1 HMK1.out fun W' e1 e2 e3 e4 e5 e6 => ?_
      have hl1 := HM.out.cm.lt
      have hl2 := HM.out.lm.lt
      have hmo : Mo A.c1 A.c2 w W' := ⟨e1.trans HS1.out.mo.os, e2.trans HS1.out.mo.tape, e3.trans HS1.out.mo.output, Nat.le_trans HS1.out.mo.size e4, fun b hb h1 h2 => (e5 b hb).trans (HS1.out.mo.block b hb h1 h2)⟩
      have hs' := HS1.out.to e6 hmo (HS1.out.cm.block (e5 _ hl1)) (HS1.out.lm.block (e5 _ hl2))
      exact ⟨.tuple #[v, .bool true], by simp [results, Tryd.f33, go_sem], v, by rw [HFD.out], by rw [← HSE.out]; exact hs'.row, hs'.mem HM.out, hmo⟩
    | false =>
      have HCM := Lib.hid hcm
      have HCP := Lib.hid (show Gives Tryd.prog 60 #[.pointer (some ⟨A.p, 0, none⟩), .agg #[.int .i64 (n.1 : Int), .slice a n.2.length c]] W (.bool false) from by rw [← hcm]; exact complete_any HMW0.out.sr n a c HG.out.lt hl)
      clear hcm
      gi_wp2_with (fail)
      refine ⟨trivial, callsIn_wide.2 (HCP.out.mono ?_)⟩
      intro W1 hE
      have HS1 := Lib.hid (HS.out.ext hE)
      have HMK1 := Lib.hid (HMK.out.keep (W' := W1) (fun D _ hD => ((show Ext _ _ from hE).below.block _ (lt_of_block hD)).trans hD))
      have HSZ1 := Lib.hid hE.size
      have q1 := cell_of HS1.out.x1 (i := 0) rfl
      have q40 := cell_of HS1.out.x4 (i := 0) rfl
      have q41 := cell_of HS1.out.x4 (i := 1) rfl
      clear hE q5
      gi_wp2_with (fail)
      refine ⟨trivial, callsIn_wide.2 ((next_any n a c W1 (HS1.out.mem HM.out).sr HS1.out.st).mono ?_)⟩
      rintro e W2 ⟨bs, bn, rfl, hR, hE⟩
      have HR := Lib.hid hR
      have HS2 := Lib.hid (HS1.out.ext hE)
      have HMK2 := Lib.hid (HMK1.out.keep (W' := W2) (fun D _ hD => ((show Ext _ _ from hE).below.block _ (lt_of_block hD)).trans hD))
      have HSZ2 := Lib.hid (show W1.heap.size ≤ W2.heap.size from hE.size)
      clear hE hR q1 q40 q41
      gi_wp2_with (fail)
      have hws : w.heap.size ≤ W2.heap.size := HS2.out.mo.size
      have hc1 : A.c1 < W2.heap.size := Nat.lt_of_lt_of_le HM.out.cm.lt hws
      have hc2 : A.c2 < W2.heap.size := Nat.lt_of_lt_of_le HM.out.lm.lt hws
      refine wpIn_range_hand (gf := 67) (lb := #[.pointer (some ⟨bs, 0, none⟩), .pointer (some ⟨bn, 0, none⟩)]) rfl enters_nxS (encs := encX) (next1_iter 8 A k z l n a c bs bn W1.heap.size HG.out HS2.out.cl hl hk1 hk6 hen) (fun _ => rfl)
        (fun j X => SrJ A k z l w w.heap.size b4 b5 n a c v (out.map Int.ofNat) (fun m => decide (0 < cnt k z l m)) bs bn W2 j X)
        (fun cd X => cd = .exit 2 ∧ SrB A k z l w w.heap.size b4 b5 n (out.map Int.ofNat) (fun m => decide (0 < cnt k z l m)) W2 X)
        (SrJ.own W2.heap.size (Nat.le_refl _) hws hc1 hc2) (fun s X Y row hs hg hr => ⟨hs.1, SrB.own W2.heap.size (Nat.le_refl _) hws hc1 hc2 () X Y row hs.2 hg hr⟩)
        (fun j X h => h.rd HM.out HSZ2.out) (fun j X h hj hs => h.step (fun m' hm' => by rw [hs] at hm'; cases hm'))
        ⟨HS2.out, HR.out.bs, HR.out.bn, Nat.le_refl _, fun D hD => hD, fun i hi => absurd hi (Nat.not_lt_zero _)⟩
        ?body ?done ?stop
      case body =>
        rintro l' j ⟨ix, n1, a1, c1⟩ WR hl' hI hj ⟨rfl, hx, hA', hc', hor⟩
        dsimp only at hx hA' hc' hor
        have HI := Lib.hid hI
        have HX1 := Lib.hid hx
        have HA1 := Lib.hid hA'
        have HOR := Lib.hid hor
        have HEX := Lib.hid (ext_allocN WR (.cells #[.int .i64 (n1.1 : Int), .slice a1 n1.2.length c1] tNd))
        clear hI hx hA' hor
        dsimp only [encX]
        gi_wp2
        refine ⟨keepsFrom_ext HEX.out, fun WB hsz hK => ?_⟩
        have hI2 := hK Nat _ (SrJ.own (A := A) (k := k) (z := z) (l := l) (w := w) (b1 := w.heap.size) (b4 := b4) (b5 := b5) (n := n) (a := a) (c := c) (v := v) (out := out.map Int.ofNat) (P := fun m => decide (0 < cnt k z l m)) (bs := bs) (bn := bn) (W2 := W2) W2.heap.size (Nat.le_refl _) hws hc1 hc2) ix (HI.out.ext HEX.out)
        have hN2 := hK Unit _ (own_cells W2.heap.size) () (alloc_here WR (.cells #[.int .i64 (n1.1 : Int), .slice a1 n1.2.length c1] tNd))
        have hA2 := hK Unit _ (own_intsU W2.heap.size a1 n1.2) () (HA1.out.ext HEX.out)
        have HI2 := Lib.hid hI2
        have HN2 := Lib.hid hN2
        have HA2 := Lib.hid hA2
        have HM2 := Lib.hid (hI2.s.mem HM.out)
        have HGN := Lib.hid (HG.out.nxt hk1 hk6 HX1.out)
        have q1 := cell_of hI2.s.x1 (i := 0) rfl
        have q70 := cell_of hN2 (i := 0) rfl
        have q71 := cell_of hN2 (i := 1) rfl
        clear hI2 hN2 hA2 hK
        gi_wp2_with (fail)
        refine ⟨trivial, CallsIn.inRound l' (callsIn_wide.2 ((count_any hl hk1 hk6 hen _ n1 a1 c1 WB rfl HM2.out HGN.out HA2.out hc').mono ?_))⟩
        rintro e W3 ⟨rfl, hm3, hmo3⟩
        have HM3 := Lib.hid hm3
        have HMO3 := Lib.hid hmo3
        have HI3 := Lib.hid (HI2.out.mv HM.out ⟨hmo3, fun _ => hm3⟩)
        have HN3 := Lib.hid (hmo3.cells HM2.out HN2.out)
        have HA3 := Lib.hid (hmo3.ints HM2.out HA2.out)
        clear hm3 hmo3 q1 q70 q71
        by_cases hq : cnt k z l n1 = 0
        · have HQ1 := Lib.hid hq
          rw [hq]
          clear hq
          gi_wp2
          exact ⟨HMO3.out.keeps hc1 hc2, HI3.out.step (fun m' hm' => by
            rw [HX1.out] at hm'
            cases hm'
            simpa using HQ1.out)⟩
        · have HQ1 := Lib.hid hq
          have g1 : decide (0 < cnt k z l n1) = true := by simp; omega
          clear hq
          have hs7 : WR.heap.size < W3.heap.size := lt_of_block HN3.out
          have hb75 : WR.heap.size ≠ b5 := by have := lt_of_block HS2.out.x5; have := HI.out.sz; omega
          gi_wp2_with (fail)
          refine wpIn_region_tailk (l1 := [_, _, _, _, _, _]) (l2 := [_]) (by kernel_rfl) (GrV v b5) (fun W => GrV.refl v b5 W) (fun W => ⟨rfl, rfl, rfl, Nat.le_refl _, fun _ _ _ _ => rfl⟩) GrV.trans
            (fun i s W => match i with
              | 0 => s 0 = v
              | 1 => s 1 = .int .i64 (ix : Int)
              | 2 => ∃ g, s 2 = .slice (some ⟨g, 0, none⟩) 1 1 ∧ W3.heap.size ≤ g ∧ W.heap[g]? = some (.cells #[.int .i64 (ix : Int)] 3 (0, 0))
              | 4 => s 4 = .agg #[.int .i64 (n1.1 : Int), .slice a1 n1.2.length c1]
              | _ => True)
            (JB w.heap.size W3.heap.size b5 v (out.map Int.ofNat) (out.map Int.ofNat ++ [(ix : Int)])) (fun s => JB.init _ _ (RowI.kept HI3.out.s.row (fun _ _ => rfl)) HI3.out.s.x5)
            (fun i => [i])
            (by
              intro i s s' W W' h hs hE
              match i, h, hs with
              | 0, h, hs => exact (hs 0 (by simp)).trans h
              | 1, h, hs => exact (hs 1 (by simp)).trans h
              | 2, h, hs => exact Exists.elim h (fun g hh => ⟨g, (hs 2 (by simp)).trans hh.1, hh.2.1, (hE.block _ (lt_of_block hh.2.2) (fun e => by have := HI3.out.s.row.blk e.symm; omega) (fun e => by have := lt_of_block HI3.out.s.x5; omega)).trans hh.2.2⟩)
              | 3, h, hs => exact trivial
              | 4, h, hs => exact (hs 4 (by simp)).trans h
              | 5, h, hs => exact trivial
              | i + 6, h, hs => exact trivial)
            (by kernel_rfl) (by kernel_rfl) (by kernel_rfl) 33 rfl (by kernel_rfl) (by kernel_rfl) ?_ ?_
          · intro i op ho listed a' W hA
            have hN4 := (hA.rel.block _ hs7 (row_ne HI3.out.s.row HN3.out (by decide)) hb75).trans HN3.out
            have q70 := cell_of hN4 (i := 0) rfl
            have q71 := cell_of hN4 (i := 1) rfl
            match i, ho with
            | 0, ho =>
              obtain rfl := Option.some.inj ho
              have e1 : a'.eval (.tmp 5) = .pointer (some ⟨b5, 0, none⟩) := hA.keep 5 (by kernel_rfl)
              have h5n : listed.getD 5 false = false := by
                cases e : listed.getD 5 false with
                | false => rfl
                | true =>
                  have h := (hA.jnv.c1 e).1
                  rw [hA.nl] at h; cases h
              have q5 := cell_of (hA.jnv.c0 h5n) (i := 0) rfl
              refine GoesKI.value (v) rfl (by intro c hc; cases hc) ?_ (GrV.refl v b5 _) (fun s h1 h2 => hA.jnv.other (by decide) (by decide) h2 (Below.refl _ _)) (fun s h1 h2 => h1 rfl)
              simp only [execOp, e1]
              simp [go_sem, q5]
            | 1, ho =>
              obtain rfl := Option.some.inj ho
              have e1 : a'.eval (.tmp 6) = .int .i64 (ix : Int) := hA.keep 6 (by kernel_rfl)
              refine GoesKI.value (.int .i64 (ix : Int)) rfl (by intro c hc; cases hc) ?_ (GrV.refl v b5 _) (fun s h1 h2 => hA.jnv.other (by decide) (by decide) h2 (Below.refl _ _)) (fun s h1 h2 => h1 rfl)
              simp only [execOp, e1]
              simp [go_sem, q70, q71]
            | 2, ho =>
              obtain rfl := Option.some.inj ho
              have e1 : a'.eval (.tmp 28) = .int .i64 (ix : Int) := (sv_dst (l := _) rfl).symm.trans (hA.new 1 (by decide) (by kernel_rfl))
              refine GoesKI.value (.slice (some ⟨W.heap.size, 0, none⟩) 1 1) (W' := W.alloc (.cells #[.int .i64 (ix : Int)] 3)) rfl (by intro c hc; cases hc) ?_ (GrV.of_ext (ext_allocN _ _)) (fun s h1 h2 => hA.jnv.other (by decide) (by decide) h2 (ext_allocN _ _)) (fun s h1 h2 => ⟨W.heap.size, h1 rfl, hA.rel.size, alloc_here _ _⟩)
              simp only [execOp]
              simp [Act.eval] at e1
              simp [go_sem, e1]
            | 3, ho =>
              obtain rfl := Option.some.inj ho
              have e1 : a'.eval (.tmp 27) = v := (sv_dst (l := _) rfl).symm.trans (hA.new 0 (by decide) (by kernel_rfl))
              have hrow := hA.jnv.r0 hA.nl
              obtain ⟨g, eg, hgS, hg⟩ := hA.new 2 (by decide) (by kernel_rfl)
              have e2 : a'.eval (.tmp 29) = .slice (some ⟨g, 0, none⟩) 1 1 := (sv_dst (l := _) rfl).symm.trans eg
              obtain ⟨v', w', hrun, hr', hg', ho'⟩ := appI_run w.heap.size v (out.map Int.ofNat) W hrow (ix : Int) g hg 27 (by have := HLN.out; simp; omega) (Nat.le_trans (Nat.le_trans HI3.out.s.mo.size (Nat.le_refl _)) hA.rel.size)
              refine GoesKI.value v' (W' := w') rfl (by intro c hc; cases hc) ?_ (GrV.of_grown hg') (fun s h1 h2 => hA.jnv.app hA.nl (by rw [hA.lsz]; decide) hg' (by rw [h1 rfl]; exact hr') (by
                rw [h1 rfl]
                rcases ho' with ho' | ho'
                · exact .inl ho'
                · exact .inr ⟨_, ho', hA.rel.size⟩)) (fun s h1 h2 => trivial)
              simp only [execOp, resolve, invoke, builtin, Sem.run_bind, Sem.run_pure, Result.andThen_ok, List.map_toArray, List.map_cons, List.map_nil, e1, e2, hrun]
            | 4, ho =>
              obtain rfl := Option.some.inj ho
              have e1 : a'.eval (.tmp 7) = .pointer (some ⟨WR.heap.size, 0, none⟩) := hA.keep 7 (by kernel_rfl)
              refine GoesKI.value (.agg #[.int .i64 (n1.1 : Int), .slice a1 n1.2.length c1]) rfl (by intro c hc; cases hc) ?_ (GrV.refl v b5 _) (fun s h1 h2 => hA.jnv.other (by decide) (by decide) h2 (Below.refl _ _)) (fun s h1 h2 => h1 rfl)
              simp only [execOp, e1]
              simp [go_sem, q70, q71]
            | 5, ho =>
              obtain rfl := Option.some.inj ho
              have e1 : a'.eval (.tmp 5) = .pointer (some ⟨b5, 0, none⟩) := hA.keep 5 (by kernel_rfl)
              have h3 := hA.lanc 3 (by kernel_rfl)
              have h0 := hA.lanc 0 (by kernel_rfl)
              have hrow := (hA.jnv.r1 h3).1
              have hc := hA.jnv.c0 hA.nl
              have hc0 := cell_of hc (i := 0) rfl
              have hf0 := free_of (i := 0) hc
              rw [svb_of (by decide), sv_dst (l := _) (d := 30) rfl] at hrow
              refine GoesKI.skip rfl (by intro c hc; cases hc) (rfl) ?_ (GrV.set _ _) (fun s h2 => by
                have hj := hA.jnv.store (s' := s) hA.nl (by rw [hA.lsz]; decide) h0 h3 h2
                rw [svb_of (by decide), sv_dst (l := _) (d := 30) rfl] at hj
                exact hj) (fun s h2 => trivial)
              obtain ⟨x3, c3, e3, -⟩ := hrow.look
              rw [e3]
              simp only [execOp, e1, e3]
              simp [go_sem, hc0, hf0]
            | i + 6, ho => cases ho
          · intro vs listed w4 hvs hG hJ hall hΦ
            obtain ⟨y0, y1, y2, y3, y4, y5, rfl⟩ : ∃ y0 y1 y2 y3 y4 y5, vs = y0 :: y1 :: y2 :: y3 :: y4 :: y5 :: [] := by
              match vs, hvs with
              | y0 :: y1 :: y2 :: y3 :: y4 :: y5 :: [], _ => exact ⟨_, _, _, _, _, _, rfl⟩
            have h4 : y4 = .agg #[.int .i64 (n1.1 : Int), .slice a1 n1.2.length c1] := hΦ 4 (by decide)
            obtain ⟨hrow, hown⟩ : RowI w.heap.size y3 (out.map Int.ofNat ++ [(ix : Int)]) w4 ∧ (y3.ownBlock = v.ownBlock ∨ ∃ g, y3.ownBlock = some g ∧ W3.heap.size ≤ g) := hJ.r1 (hall 3 (by decide))
            have h5 : w4.heap[b5]? = some (.cells #[y3] 27 (0, 0)) := (hJ.c1 (hall 5 (by decide))).2.2
            subst h4
            obtain ⟨ax, cx, e3, -⟩ := hrow.look
            subst e3
            have hGV : GrV v b5 W3 w4 := hG
            have hb45 : b4 ≠ b5 := fun e => by have := HI3.out.s.x4; rw [e, HI3.out.s.x5] at this; simp at this
            have h4 := (hGV.block _ (lt_of_block HI3.out.s.x4) (row_ne HI3.out.s.row HI3.out.s.x4 (by decide)) hb45).trans HI3.out.s.x4
            have q40 := cell_of h4 (i := 0) rfl
            have f40 := free_of (i := 0) h4
            have q41 := cell_of h4 (i := 1) rfl
            have f41 := free_of (i := 1) h4
            have hof : n1.2 ≠ [] → ∀ x, a1 = some x → v.ownBlock ≠ some x.block ∧ x.block ≠ b4 ∧ x.block ≠ b5 := by
              intro hne x e
              rcases HOR.out with h | ⟨h, h'⟩
              · have hx := h x e
                have hxb := HS1.out
                refine ⟨fun e' => ?_, ?_, ?_⟩
                · have := hxb.row.blk e'; omega
                · have := lt_of_block hxb.x4; omega
                · have := lt_of_block hxb.x5; omega
              · have e' : a = some x := by rw [← h]; exact e
                exact HS1.out.of (by rw [← h']; exact hne) x e'
            have HFIN := Lib.hid (HI3.out.s.next2 HM.out hGV hrow h5 hown HA3.out hc' hof hbw4 hbw5)
            have HDM := Lib.hid HI3.out.md
            have HKG := Lib.hid (show KeepsFrom W2.heap.size W3 w4 from ⟨hGV.size, fun b o hB hb ho => (hGV.block b (lt_of_block hb) (fun e => by
              obtain ⟨cs, f, hq⟩ := HI3.out.s.row.cells e.symm
              rw [hb] at hq; cases hq; cases ho) (fun e => by rw [e, HI3.out.s.x5] at hb; cases hb; cases ho)).trans hb⟩)
            have HDK := Lib.hid (show ∀ D : Nat, W2.heap[D]? = some (.deferred (some [])) → w4.heap[D]? = some (.deferred (some [])) from fun D hD => (hGV.block D (lt_of_block (HDM.out D hD)) (fun e => by
              obtain ⟨cs, f, hq⟩ := HI3.out.s.row.cells e.symm
              rw [HDM.out D hD] at hq; cases hq) (fun e => by have := HDM.out D hD; rw [e, HI3.out.s.x5] at this; cases this)).trans (HDM.out D hD))
            have HH5 := Lib.hid h5
            have HH4 := Lib.hid h4
            clear hΦ hvs hJ hall hG hGV hrow hown h4 h5
            simp only [putAll, Act.put, List.setIfInBounds_toArray, List.set_cons_succ, List.set_cons_zero]
            gi_wp2
            refine ⟨(HMO3.out.keeps hc1 hc2).trans (HKG.out.trans (((KeepsOthers.setCell _ _ _).from _).trans ((KeepsOthers.setCell _ _ _).from _))), rfl, fun D hD => ?_, ix, n1, a1, c1, _, hj, HX1.out, g1, HI3.out.nx, HFIN.out⟩
            have hd := HDK.out D hD
            have d4 : D ≠ b4 := fun e => by rw [e, HH4.out] at hd; cases hd
            rw [Below.heap_setCell _ ⟨b4, 1, none⟩ _ _ d4, Below.heap_setCell _ ⟨b4, 0, none⟩ _ _ d4]
            exact hd
      case done =>
        intro D X hD hI hK
        exfalso
        have hz := cnt_zero HCM.out (fun i hi m' hm' => by simpa using hI.nx i hi m' hm')
        have := HP.out
        omega
      case stop =>
        rintro D cd X hD ⟨rfl, hB⟩ hK
        obtain ⟨j, m, a', c', v', h1, h2, h3, h4, h5⟩ := hB.at_
        have hp' : 0 < cnt k z l m := by simpa using h3
        have hlf := nxt_lft h2
        have hmk : Marks w.heap.size ({ target := .collected D, args := #[] } :: ds) X := by
          refine (HMK2.out.keep (W' := X) (fun E hE hED => hB.md E hED)).cons (Nat.le_trans hws hD) hK (fun d hd E e => ?_)
          obtain ⟨E', e', _, hE'⟩ := HMK2.out.all d hd
          rw [e] at e'
          cases e'
          exact Nat.lt_of_lt_of_le (lt_of_block hE') hD
        have HSTOP := Lib.hid (And.intro h5 (And.intro (HG.out.nxt hk1 hk6 h2) (And.intro hp' hmk)))
        have HLF := Lib.hid hlf
        have HSTEP := Lib.hid (show ∀ f', f = f' + 1 → (out ++ [j]) ++ serF k z l f' m = S from fun f' e => by
          rw [← HO.out, e, ser_step HCM.out h1 h2 hp' (fun i hi m' hm' => by simpa using h4 i hi m' hm'), List.append_assoc]; rfl)
        clear hB h1 h2 h3 h4 h5 hp' hlf hmk hK
        gi_wp2_with (fail)
        obtain ⟨f', hf'⟩ : ∃ f', f = f' + 1 := ⟨f - 1, by have := HF.out; omega⟩
        have hx4 := cell_of HSTOP.out.1.x4 (i := 0) rfl
        have hml := HF.out
        have hlf := HLF.out
        have hmu := HMU.out
        refine ⟨⟨m, a', c', v', out ++ [j], f', _, _, _, _, _, _, _, _, _, _, _, _, _, _, _, _, _, _, _, _, _, _, _, _, _, _, _, _, rfl, by rw [List.map_append]; exact HSTOP.out.1, HSTOP.out.2.1, HSTOP.out.2.2.1, by omega, HSTEP.out f' hf', HSTOP.out.2.2.2, by have := HLN.out; rw [List.length_append, List.length_singleton]; omega, lt_of_block HSTOP.out.1.x5⟩, ?_⟩
        rw [muC_at hx4]
        omega
end Go.Proofs.YtmbkjccckmlacaaDoor

namespace Go.Proofs.YtmbkjccckmlacaaDoor
open Go.RowKit
set_option linter.unusedVariables false
set_option linter.unusedSimpArgs false

theorem srE_parts {k z : Int} {l : List Cl} (hb : srE k z l = 0) : mdE k z = 0 ∧ ckH l = 0 ∧ l.length ≤ 12 := by
  unfold srE at hb
  split at hb
  · next h1 => exact absurd hb h1
  · next h1 =>
    split at hb
    · cases hb
    · next h2 =>
      split at hb
      · cases hb
      · next h3 => exact ⟨Decidable.not_not.1 h1, Decidable.not_not.1 h2, by omega⟩
theorem mdE_k {k z : Int} (h : mdE k z = 0) : 1 ≤ k ∧ k ≤ 6 := by
  unfold mdE at h
  split at h
  · omega
  · omega
theorem clE_en {l : List Cl} {i : Nat} {x : Cl} (h : clE l i x = 0) : -1 ≤ x.en := by
  unfold clE at h
  split at h
  · omega
  · split at h
    · omega
    · next h2 => omega
/-- a fresh searcher remembers nothing -/
theorem Mem.fresh {A : SA} {k z : Int} {l : List Cl} {w : World} (h : Sr w A k z l) (h1 : MapSAt w A.c1 []) (h2 : MapSAt w A.c2 []) (hn : A.c1 ≠ A.c2) (ht : TabW w) : Mem A k z l w :=
  ⟨h, ⟨[], h1, fun p hp => by cases hp⟩, ⟨[], h2, fun p hp => by cases hp⟩, hn, ht⟩
theorem Mo.fresh {c1 c2 : Nat} {w0 w W : World} (h : Mo c1 c2 w W) (hE : Ext w0 w) (h1 : w0.heap.size ≤ c1) (h2 : w0.heap.size ≤ c2) : Ext w0 W :=
  Below.trans hE (h.below hE.size h1 h2)
theorem ck_en {l : List Cl} (h : ckH l = 0) (i : Nat) (hi : i < l.length) : -1 ≤ l[i].en := by
  have h0 : callE l i = 0 := by
    unfold ckH at h
    split at h
    · cases h
    · split at h
      · next h1 => exact absurd h h1
      · next h1 => exact fstE_all (Decidable.not_not.1 h1) i hi
  unfold callE at h0
  rw [List.getElem?_eq_getElem hi] at h0
  exact clE_en h0
/-- Search: a row, a boolean, an error -/
def ShP (w : World) (R : List Nat × Bool × Int) (e : Ending) (w' : World) : Prop := ∃ v, e = .returned (.tuple #[v, .bool R.2.1, .int .i64 R.2.2]) ∧ RowI w.heap.size v (R.1.map Int.ofNat) w' ∧ Ext w w'
set_option maxRecDepth 100000 in
set_option maxHeartbeats 4000000 in
theorem Search_any (k z : Int) (l : List Cl) (a : Option Addr) (c : Nat) (w : World) (h : HsAt w a l) (hlen : l.length ≤ maxLen) (ht : TabW w) :
    Calls Tryd.prog 12 #[.agg #[.int .i64 k, .int .i64 z], .slice a l.length c] w (ShP w (srhR k z l)) := by
  have c0 := mdb0 w k z
  have c1 := mdb1 w k z
  have HX := Lib.hid (ext_allocN w (.cells #[.int .i64 k, .int .i64 z] 23))
  have HH := Lib.hid (h.ext HX.out)
  have HT := Lib.hid (ht.below HX.out.below)
  have HR := Lib.hid (show srhR k z l = if srE k z l ≠ 0 then ([], false, srE k z l) else ((serR k z l).1, (serR k z l).2, 0) from rfl)
  generalize srhR k z l = R at *
  obtain ⟨wk, hwk⟩ : ∃ W, W = w.alloc (.cells #[.int .i64 k, .int .i64 z] 23) := ⟨_, rfl⟩
  have hwk' := hwk.symm
  rw [hwk'] at HX HH HT c0 c1
  by_cases hb : srE k z l = 0
  · obtain ⟨hmd, hck, hl⟩ := srE_parts hb
    obtain ⟨hk1, hk6⟩ := mdE_k hmd
    have HRv := Lib.hid (show R = ((serR k z l).1, (serR k z l).2, 0) by rw [HR.out, if_neg (by rw [hb]; simp)])
    have HN := Lib.hid (newS_ok k z l a c wk HH.out hb)
    have HSe := Lib.hid (fun (A : SA) (W : World) (hM : Mem A k z l W) => search_any hl hk1 hk6 (ck_en hck) hmd W hM)
    unfold SeP at HSe
    unfold ShP
    generalize serR k z l = S at *
    obtain ⟨S1, S2⟩ := S
    dsimp only at *
    clear h hb hmd hck HR hwk ht
    go_enter Tryd.func12, Tryd.ntmps12
    go_wp2_with fail
    try rw [hwk']
    refine HN.out.mono ?_
    rintro e w1 ⟨A, rfl, hs, hp, hc1, hc2, hne, hm1, hm2, hE⟩
    have HM := Lib.hid (Mem.fresh hs hm1 hm2 hne (HT.out.below hE.below))
    have HE1 := Lib.hid (Ext.trans HX.out hE)
    have HC := Lib.hid (And.intro (Nat.le_trans HX.out.size hc1) (Nat.le_trans HX.out.size hc2))
    clear hs hp hc1 hc2 hne hm1 hm2 hE c0 c1
    go_wp2_with fail
    refine (HSe.out A w1 HM.out).mono ?_
    rintro e w2 ⟨v, rfl, hr, hm, hmo⟩
    have HRW := Lib.hid (hr.le HE1.out.size)
    have HE2 := Lib.hid (Mo.fresh hmo HE1.out HC.out.1 HC.out.2)
    clear hr hm hmo
    go_wp2
    go_ret3
    obtain rfl := HRv.out
    exact ⟨v, rfl, HRW.out, HE2.out⟩
  · have HN := Lib.hid (newS_bad k z l a c wk HH.out hlen hb)
    have HRv := Lib.hid (show R = ([], false, srE k z l) by rw [HR.out, if_pos hb])
    have g1 : (srE k z l != 0) = true := by rw [bne_iff_ne]; exact hb
    generalize srE k z l = E at *
    unfold maxLen at hlen
    clear h hb HR hwk ht
    go_enter Tryd.func12, Tryd.ntmps12
    go_wp2_with fail
    try rw [hwk']
    refine HN.out.mono ?_
    intro w1 hE
    have HE1 := Lib.hid (Ext.trans HX.out hE)
    clear hE c0 c1
    go_wp2
    go_ret3
    obtain rfl := HRv.out
    exact ⟨_, rfl, RowI.nil _ _, HE1.out⟩
set_option maxRecDepth 100000 in
set_option maxHeartbeats 4000000 in
theorem Count_any (k z : Int) (l : List Cl) (most : Int) (a : Option Addr) (c : Nat) (w : World) (h : HsAt w a l) (hlen : l.length ≤ maxLen) (ht : TabW w) :
    Gives Tryd.prog 16 #[.agg #[.int .i64 k, .int .i64 z], .slice a l.length c, .int .i64 most] w (.tuple #[.int .i64 (cotR k z l most).1, .int .i64 (cotR k z l most).2]) := by
  unfold Gives
  have c0 := mdb0 w k z
  have c1 := mdb1 w k z
  have HX := Lib.hid (ext_allocN w (.cells #[.int .i64 k, .int .i64 z] 23))
  have HH := Lib.hid (h.ext HX.out)
  have HT := Lib.hid (ht.below HX.out.below)
  have HR := Lib.hid (show cotR k z l most = if srE k z l ≠ 0 then (0, srE k z l) else if most < 0 ∨ 10000 < most then (0, 2) else (min most (cnt k z l (beg0 k)), 0) from rfl)
  generalize cotR k z l most = R at *
  obtain ⟨wk, hwk⟩ : ∃ W, W = w.alloc (.cells #[.int .i64 k, .int .i64 z] 23) := ⟨_, rfl⟩
  have hwk' := hwk.symm
  rw [hwk'] at HX HH HT c0 c1
  by_cases hb : srE k z l = 0
  · obtain ⟨hmd, hck, hl⟩ := srE_parts hb
    obtain ⟨hk1, hk6⟩ := mdE_k hmd
    have HRv := Lib.hid (show R = if most < 0 ∨ 10000 < most then (0, 2) else (min most (cnt k z l (beg0 k)), 0) by rw [HR.out, if_neg (by rw [hb]; simp)])
    have HN := Lib.hid (newS_ok k z l a c wk HH.out hb)
    have HBG := Lib.hid (fun (A : SA) (W : World) (hM : Mem A k z l W) => begin_any hM.sr)
    have HCT := Lib.hid (fun (A : SA) (W : World) (a' : Option Addr) (c' : Nat) (hM : Mem A k z l W) (hI : IntsAt W a' (beg0 k).2) (hc : (beg0 k).2.length ≤ c') => count_any hl hk1 hk6 (ck_en hck) _ (beg0 k) a' c' W rfl hM (Gd.beg0 l hmd) hI hc)
    generalize beg0 k = n0 at *
    have hct : cnt k z l n0 ≤ 10001 := cnt_le _ _ _ _
    generalize cnt k z l n0 = q at *
    clear h hb hmd hck HR hwk ht
    by_cases hm1 : most < 0
    · have g2 : decide (most < 0) = true := by simpa using hm1
      have HRw := Lib.hid (show R = (0, 2) by rw [HRv.out, if_pos (Or.inl hm1)])
      clear hm1
      go_enter Tryd.func16, Tryd.ntmps16
      go_wp2_with fail
      try rw [hwk']
      refine HN.out.mono ?_
      rintro e w1 ⟨A, rfl, hs, hp, hc1, hc2, hne, hm1, hm2, hE⟩
      have HE1 := Lib.hid (Ext.trans HX.out hE)
      clear hs hp hc1 hc2 hne hm1 hm2 hE c0 c1
      go_wp2
      go_ret2
      obtain rfl := HRw.out
      exact ⟨rfl, HE1.out⟩
    by_cases hm2 : 10000 < most
    · have g2 : decide (most < 0) = false := by simpa using hm1
      have g3 : decide (10000 < most) = true := by simpa using hm2
      have HRw := Lib.hid (show R = (0, 2) by rw [HRv.out, if_pos (Or.inr hm2)])
      clear hm1 hm2
      go_enter Tryd.func16, Tryd.ntmps16
      go_wp2_with fail
      try rw [hwk']
      refine HN.out.mono ?_
      rintro e w1 ⟨A, rfl, hs, hp, hc1, hc2, hne, hm1, hm2, hE⟩
      have HE1 := Lib.hid (Ext.trans HX.out hE)
      clear hs hp hc1 hc2 hne hm1 hm2 hE c0 c1
      go_wp2
      go_ret2
      obtain rfl := HRw.out
      exact ⟨rfl, HE1.out⟩
    · have g2 : decide (most < 0) = false := by simpa using hm1
      have g3 : decide (10000 < most) = false := by simpa using hm2
      have HRw := Lib.hid (show R = ((if (q : Int) < most then (q : Int) else most), 0) by
        rw [HRv.out, if_neg (by omega)]
        congr 1
        split <;> omega)
      clear hm1 hm2
      go_enter Tryd.func16, Tryd.ntmps16
      go_wp2_with fail
      try rw [hwk']
      refine HN.out.mono ?_
      rintro e w1 ⟨A, rfl, hs, hp, hc1, hc2, hne, hm1, hm2, hE⟩
      have HM := Lib.hid (Mem.fresh hs hm1 hm2 hne (HT.out.below hE.below))
      have HE1 := Lib.hid (Ext.trans HX.out hE)
      have HC := Lib.hid (And.intro (Nat.le_trans HX.out.size hc1) (Nat.le_trans HX.out.size hc2))
      clear hs hp hc1 hc2 hne hm1 hm2 hE c0 c1
      go_wp2_with fail
      refine (HBG.out A w1 HM.out).mono ?_
      rintro e w2 ⟨a2, c2, rfl, hi2, hl2, hE2⟩
      have HM2 := Lib.hid (HM.out.ext hE2)
      have HE2 := Lib.hid (Ext.trans HE1.out hE2)
      have HI2 := Lib.hid hi2
      clear hi2 hE2
      go_wp2_with fail
      refine (HCT.out A w2 a2 c2 HM2.out HI2.out hl2).mono ?_
      rintro e w3 ⟨rfl, hm3, hmo3⟩
      have HE3 := Lib.hid (Mo.fresh hmo3 HE2.out HC.out.1 HC.out.2)
      clear hm3 hmo3
      have hmr := fun W => min_run #[3, 3] 3 most (q : Int) W
      obtain ⟨mn, hmn⟩ : ∃ mn : Int, (if (q : Int) < most then (q : Int) else most) = mn := ⟨_, rfl⟩
      rw [hmn] at HRw
      simp only [hmn] at hmr
      clear hmn
      go_wp2
      go_ret2
      obtain rfl := HRw.out
      exact ⟨rfl, HE3.out⟩
  · have HN := Lib.hid (newS_bad k z l a c wk HH.out hlen hb)
    have HRv := Lib.hid (show R = (0, srE k z l) by rw [HR.out, if_pos hb])
    have g1 : (srE k z l != 0) = true := by rw [bne_iff_ne]; exact hb
    generalize srE k z l = E at *
    unfold maxLen at hlen
    clear h hb HR hwk ht
    go_enter Tryd.func16, Tryd.ntmps16
    go_wp2_with fail
    try rw [hwk']
    refine HN.out.mono ?_
    intro w1 hE
    have HE1 := Lib.hid (Ext.trans HX.out hE)
    clear hE c0 c1
    go_wp2
    go_ret2
    obtain rfl := HRv.out
    exact ⟨rfl, HE1.out⟩
end Go.Proofs.YtmbkjccckmlacaaDoor

namespace Go.Proofs.YtmbkjccckmlacaaDoor
open Go.RowKit
set_option linter.unusedVariables false
set_option linter.unusedSimpArgs false
attribute [local go_sem] Oper.semAt_some

theorem arr_map (t : Array Value) : t = ((List.range t.size).map (fun i => t.getD i undef)).toArray := by
  apply Array.ext'
  apply List.ext_getElem?
  intro i
  rw [List.getElem?_map, Array.getElem?_toList]
  by_cases hi : i < t.size
  · rw [List.getElem?_range hi, Array.getElem?_eq_getElem hi]
    simp [Array.getD_eq_getD_getElem?, Array.getElem?_eq_getElem hi]
  · rw [Array.getElem?_eq_none (by omega), List.getElem?_eq_none (by simp; omega)]; rfl
/-- the first fourteen slots are known -/
def U79 (f0 f1 f2 f3 f4 f5 f6 f7 f8 f9 f10 f11 f12 f13 : Value) (t : Array Value) : Prop := ∃ u : Nat → Value, t = #[f0, f1, f2, f3, f4, f5, f6, f7, f8, f9, f10, f11, f12, f13, u 14, u 15, u 16, u 17, u 18, u 19, u 20, u 21, u 22, u 23, u 24, u 25, u 26, u 27, u 28, u 29, u 30, u 31, u 32, u 33, u 34, u 35, u 36, u 37, u 38, u 39, u 40, u 41, u 42, u 43, u 44, u 45, u 46, u 47, u 48, u 49, u 50, u 51, u 52, u 53, u 54, u 55, u 56, u 57, u 58, u 59, u 60, u 61, u 62, u 63, u 64, u 65, u 66, u 67, u 68, u 69, u 70, u 71, u 72, u 73, u 74, u 75, u 76, u 77, u 78]
set_option maxRecDepth 100000 in
theorem U79.of {f0 f1 f2 f3 f4 f5 f6 f7 f8 f9 f10 f11 f12 f13 : Value} {t : Array Value} (h : t.size = 79) (h0 : t.getD 0 undef = f0) (h1 : t.getD 1 undef = f1) (h2 : t.getD 2 undef = f2) (h3 : t.getD 3 undef = f3) (h4 : t.getD 4 undef = f4) (h5 : t.getD 5 undef = f5) (h6 : t.getD 6 undef = f6) (h7 : t.getD 7 undef = f7) (h8 : t.getD 8 undef = f8) (h9 : t.getD 9 undef = f9) (h10 : t.getD 10 undef = f10) (h11 : t.getD 11 undef = f11) (h12 : t.getD 12 undef = f12) (h13 : t.getD 13 undef = f13) : U79 f0 f1 f2 f3 f4 f5 f6 f7 f8 f9 f10 f11 f12 f13 t := by
  subst h0 h1 h2 h3 h4 h5 h6 h7 h8 h9 h10 h11 h12 h13
  refine ⟨fun i => t.getD i undef, ?_⟩
  have e := arr_map t
  rw [h] at e
  exact e.trans (by kernel_rfl)
/-- the loop has been left -/
structure SrB2 (A : SA) (k z : Int) (l : List Cl) (w : World) (b1 b4 b5 b13 : Nat) (n : Nd) (out : List Int) (P : Nd → Bool) (W2 : World) (X : World) : Prop where
  md : ∀ D : Nat, W2.heap[D]? = some (.deferred (some [])) → X.heap[D]? = some (.deferred (some []))
  at_ : ∃ (j : Nat) (m : Nd) (a : Option Addr) (c : Nat) (v : Value), j < l.length ∧ nxt k z l n j = some m ∧ P m = true ∧ (∀ i, i < j → ∀ m', nxt k z l n i = some m' → P m' = false) ∧ SrI A k z l w b1 b4 b5 m a c v (out ++ [(j : Int)]) X ∧ ∀ g, v.ownBlock = some g → g ≠ b13
theorem SrB2.own {A : SA} {k z : Int} {l : List Cl} {n : Nd} {w : World} {b1 b4 b5 b13 : Nat} {out : List Int} {P : Nd → Bool} {W2 : World} (B : Nat) (hB : W2.heap.size ≤ B) (hw : w.heap.size ≤ B) (h1 : A.c1 < B) (h2 : A.c2 < B) {β : Type} : OwnFrom B (fun (_ : β) X => SrB2 A k z l w b1 b4 b5 b13 n out P W2 X) := by
  intro j X Y row h hg hr
  obtain ⟨j', m, a', c', v', q1, q2, q3, q4, q5, q6⟩ := h.at_
  exact ⟨own_mk hB h.md hg hr, j', m, a', c', v', q1, q2, q3, q4, SrI.own B hw h1 h2 () X Y row q5 hg hr, q6⟩
theorem exp_step {k z : Int} {l : List Cl} {n m : Nd} {j r : Nat} (hj : j < l.length) (hx : nxt k z l n j = some m) (hp : lon k z l m = r) (hb : ∀ i, i < j → ∀ m', nxt k z l n i = some m' → lon k z l m' ≠ r) : expF k z l (r + 1) n = (j :: (expF k z l r m).1, (expF k z l r m).2) := by
  rw [expF, find_nxs (fun q => decide (lon k z l q = r)) hj hx (by simpa using hp) (fun i hi m' hm => by simpa using hb i hi m' hm)]
theorem ix_at {l : List Cl} {n : Nd} {j : Nat} (hj : j < l.length) (hb : (andN (must l) n.1).testBit j = true) (hno : ∀ i, i < j → (andN (must l) n.1).testBit i = false) : ixR l n = (j : Int) := by
  unfold ixR
  have : (List.range l.length).find? (fun i => (must l).testBit i && !n.1.testBit i) = some j := by
    rw [List.find?_range_eq_some]
    refine ⟨by rw [← andN_bit]; exact hb, List.mem_range.2 hj, fun i hi => ?_⟩
    rw [← andN_bit, hno i hi]; rfl
  rw [this]
theorem ix_no {l : List Cl} {n : Nd} (hno : ∀ i, i < l.length → (andN (must l) n.1).testBit i = false) : ixR l n = -1 := by
  unfold ixR
  have : (List.range l.length).find? (fun i => (must l).testBit i && !n.1.testBit i) = none := by
    rw [List.find?_eq_none]
    intro i hi
    rw [← andN_bit, hno i (List.mem_range.1 hi)]; simp
  rw [this]
theorem exp_skip {k z : Int} {l : List Cl} {n : Nd} {r : Nat} (hb : ∀ i, i < l.length → ∀ m', nxt k z l n i = some m' → lon k z l m' ≠ r) : expF k z l (r + 1) n = expF k z l r n := by
  rw [expF, find_none (fun q => decide (lon k z l q = r)) (fun i hi m' hm => by simpa using hb i hi m' hm)]
def muR (a : Act) (W : World) : Nat := match a.tmps.getD 13 undef with
  | Value.pointer (some p) => (match W.cell? p with
    | some (Value.int _ r) => r.toNat
    | _ => 0)
  | _ => 0
theorem muR_at {t : Array Value} {ds : List Deferred} {W : World} {b r : Nat} (ht : t.getD 13 undef = .pointer (some ⟨b, 0, none⟩)) (h : W.cell? ⟨b, 0, none⟩ = some (.int .i64 (r : Int))) : muR { tmps := t, defers := ds } W = r := by
  unfold muR; dsimp only; rw [ht]; dsimp only; rw [h]; simp
/-- Explain: a row, a number, an error -/
def XpP (w : World) (R : List Nat × Int × Int) (e : Ending) (w' : World) : Prop := ∃ v, e = .returned (.tuple #[v, .int .i64 R.2.1, .int .i64 R.2.2]) ∧ RowI w.heap.size v (R.1.map Int.ofNat) w' ∧ Ext w w'
set_option maxRecDepth 100000 in
set_option maxHeartbeats 4000000 in
theorem Explain_bad (k z : Int) (l : List Cl) (a : Option Addr) (c : Nat) (w : World) (h : HsAt w a l) (hlen : l.length ≤ maxLen) (hb : srE k z l ≠ 0) :
    Calls Tryd.prog 18 #[.agg #[.int .i64 k, .int .i64 z], .slice a l.length c] w (XpP w (xplR k z l)) := by
  have c0 := mdb0 w k z
  have c1 := mdb1 w k z
  have HX := Lib.hid (ext_allocN w (.cells #[.int .i64 k, .int .i64 z] 23))
  have HH := Lib.hid (h.ext HX.out)
  have HRv := Lib.hid (show xplR k z l = ([], 0, srE k z l) by unfold xplR; rw [if_pos hb])
  generalize xplR k z l = R at *
  obtain ⟨wk, hwk⟩ : ∃ W, W = w.alloc (.cells #[.int .i64 k, .int .i64 z] 23) := ⟨_, rfl⟩
  have hwk' := hwk.symm
  rw [hwk'] at HX HH c0 c1
  have HN := Lib.hid (newS_bad k z l a c wk HH.out hlen hb)
  have g1 : (srE k z l != 0) = true := by rw [bne_iff_ne]; exact hb
  generalize srE k z l = E at *
  unfold maxLen at hlen
  clear h hb hwk
  go_enter Tryd.func18, Tryd.ntmps18
  go_wp2_with fail
  try rw [hwk']
  refine HN.out.mono ?_
  intro w1 hE
  have HE1 := Lib.hid (Ext.trans HX.out hE)
  clear hE c0 c1
  go_wp2
  go_ret3
  obtain rfl := HRv.out
  exact ⟨_, rfl, RowI.nil _ _, HE1.out.alloc HE1.out.size _⟩
set_option maxRecDepth 100000 in
set_option maxHeartbeats 8000000 in
theorem Explain_ok (k z : Int) (l : List Cl) (a0 : Option Addr) (c0 : Nat) (w0 : World) (h : HsAt w0 a0 l) (ht : TabW w0) (hb : srE k z l = 0) :
    Calls Tryd.prog 18 #[.agg #[.int .i64 k, .int .i64 z], .slice a0 l.length c0] w0 (XpP w0 (xplR k z l)) := by
  obtain ⟨hmd, hck, hl⟩ := srE_parts hb
  obtain ⟨hk1, hk6⟩ := mdE_k hmd
  have hen := ck_en hck
  have q0 := mdb0 w0 k z
  have q1 := mdb1 w0 k z
  have HX := Lib.hid (ext_allocN w0 (.cells #[.int .i64 k, .int .i64 z] 23))
  have HH := Lib.hid (h.ext HX.out)
  have HT := Lib.hid (ht.below HX.out.below)
  obtain ⟨E, hE0⟩ : ∃ E, expF k z l (lon k z l (beg0 k)) (beg0 k) = E := ⟨_, rfl⟩
  have HR := Lib.hid (show xplR k z l = if (serR k z l).2 = true then ((serR k z l).1, -1, 0) else (E.1, ixR l E.2, 0) by unfold xplR; rw [if_neg (by rw [hb]; simp), hE0])
  have HE0 := Lib.hid hE0
  generalize xplR k z l = R at *
  obtain ⟨wk, hwk⟩ : ∃ W, W = w0.alloc (.cells #[.int .i64 k, .int .i64 z] 23) := ⟨_, rfl⟩
  have hwk' := hwk.symm
  rw [hwk'] at HX HH HT q0 q1
  have HN := Lib.hid (newS_ok k z l a0 c0 wk HH.out hb)
  have HSe := Lib.hid (fun (A : SA) (W : World) (hM : Mem A k z l W) => search_any hl hk1 hk6 hen hmd W hM)
  unfold SeP at HSe
  have HG0 := Lib.hid (Gd.beg0 l hmd)
  have HBG := Lib.hid (fun (A : SA) (W : World) (hM : Mem A k z l W) => begin_any hM.sr)
  generalize serR k z l = SS at *
  obtain ⟨S, fd⟩ := SS
  dsimp only at *
  have hlr : lon k z l (beg0 k) ≤ 13 := by have := lon_le k z l (beg0 k); omega
  generalize hb0 : beg0 k = n0 at *
  obtain ⟨len, hlen⟩ : ∃ n, l.length = n := ⟨_, rfl⟩
  have HL := Lib.hid hlen
  rw [hlen] at HN ⊢
  clear h hb hmd hck hwk ht hE0 hb0 hlen
  refine (callsIn_wide (n := 9)).1 ?_
  refine callsIn_of_wp_marks Tryd.func18 rfl trivial ?_ rfl
  simp only [Tryd.ntmps18, List.size_toArray, List.length_cons, List.length_nil, Nat.reduceAdd, Nat.reduceSub, Array.replicate_succ, Array.replicate_zero, List.push_toArray, List.append_toArray, List.nil_append, List.cons_append]
  gi_wp2_with (fail)
  try rw [hwk']
  refine ⟨trivial, callsIn_wide.2 (HN.out.mono ?_)⟩
  rintro e w ⟨A, rfl, hs, hp, hc1, hc2, hne, hm1, hm2, hE⟩
  have HM := Lib.hid (Mem.fresh hs hm1 hm2 hne (HT.out.below hE.below))
  have HEW := Lib.hid (Ext.trans HX.out hE)
  have HC := Lib.hid (And.intro (Nat.le_trans HX.out.size hc1) (Nat.le_trans HX.out.size hc2))
  clear hs hp hc1 hc2 hne hm1 hm2 hE q0 q1
  gi_wp2_with (fail)
  obtain ⟨w2, hw2⟩ : ∃ W, W = w.alloc (.cells #[.pointer (some ⟨A.p, 0, none⟩)] 60) := ⟨_, rfl⟩
  try rw [← hw2]
  have HE2 := Lib.hid (show Ext w w2 by rw [hw2]; exact ext_allocN w _)
  have B1 := Lib.hid (show w2.heap[w.heap.size]? = some (.cells #[.pointer (some ⟨A.p, 0, none⟩)] 60 (0, 0)) by rw [hw2]; exact alloc_here _ _)
  clear hw2
  refine ⟨trivial, callsIn_wide.2 ((HSe.out A w2 (HM.out.ext HE2.out)).mono ?_)⟩
  rintro e w3 ⟨v9, rfl, hr9, hm3, hmo3⟩
  have HM3 := Lib.hid hm3
  have HMO3 := Lib.hid ((Mo.of_ext HE2.out).trans hmo3)
  have HR9 := Lib.hid (hr9.le (Nat.le_trans HEW.out.size HE2.out.size))
  have B13 := Lib.hid (hmo3.cells (HM.out.ext HE2.out) B1.out)
  have HFRESH := Lib.hid (fun W (hmo : Mo A.c1 A.c2 w W) => (Mo.fresh hmo HEW.out HC.out.1 HC.out.2 : Ext w0 W))
  clear hr9 hm3 hmo3
  cases fd with
  | true =>
    have HRv := Lib.hid (show R = (S, -1, 0) by rw [HR.out]; rfl)
    gi_wp2
    have hrv := HRv.out
    subst hrv
    exact ⟨.tuple #[v9, .int .i64 (-1), .int .i64 0], by simp [results, Tryd.f18, go_sem], _, rfl, HR9.out, HFRESH.out _ HMO3.out⟩
  | false =>
  have HRv := Lib.hid (show R = (E.1, ixR l E.2, 0) by rw [HR.out]; rfl)
  have x1 := cell_of B13.out (i := 0) rfl
  gi_wp2_with (fail)
  refine ⟨trivial, callsIn_wide.2 ((HBG.out A w3 HM3.out).mono ?_)⟩
  rintro e w4 ⟨a4, c4, rfl, hi4, hc4, hE⟩
  have HE34 := Lib.hid hE
  have HI4 := Lib.hid hi4
  have hz1 : w.heap.size < w4.heap.size := lt_of_block ((hE.below.block _ (lt_of_block B13.out)).trans B13.out)
  have x1 := cell_of ((hE.below.block _ (lt_of_block B13.out)).trans B13.out) (i := 0) rfl
  clear hi4 hE
  gi_wp2_with (fail)
  obtain ⟨b4, hb4⟩ : ∃ b, b = w4.heap.size := ⟨_, rfl⟩
  obtain ⟨b5, hb5⟩ : ∃ b, b = w4.heap.size + 1 := ⟨_, rfl⟩
  obtain ⟨w6, hw6⟩ : ∃ W, W = (w4.alloc (.cells #[.int .i64 (n0.1 : Int), .slice a4 n0.2.length c4] tNd)).alloc (.cells #[.slice none 0 0] 27) := ⟨_, rfl⟩
  try rw [← hw6]
  try rw [← hb5]
  try rw [← hb4]
  have HE46 := Lib.hid (show Ext w4 w6 by rw [hw6]; exact (ext_allocN _ _).alloc (by simp) _)
  have B4 := Lib.hid (show w6.heap[b4]? = some (.cells #[.int .i64 (n0.1 : Int), .slice a4 n0.2.length c4] tNd (0, 0)) by rw [hw6, hb4]; exact (Below.heap_alloc _ _ _ (by simp)).trans (alloc_here _ _))
  have B5 := Lib.hid (show w6.heap[b5]? = some (.cells #[.slice none 0 0] 27 (0, 0)) by
    have h1 := alloc_here (w4.alloc (.cells #[.int .i64 (n0.1 : Int), .slice a4 n0.2.length c4] tNd)) (.cells #[.slice none 0 0] 27)
    rw [World.size_alloc] at h1
    rw [hw6, hb5]; exact h1)
  have HO0 := Lib.hid (show n0.2 ≠ [] → ∀ x, a4 = some x → x.block < b4 from fun hne x e => by
    cases hn : n0.2 with
    | nil => exact absurd hn hne
    | cons y t =>
      obtain ⟨b, off, e', hq⟩ := HI4.out 0 (by rw [hn]; simp)
      rw [e] at e'
      cases e'
      have := cell_lt hq
      rw [hb4]; exact this)
  have hbw4 : w.heap.size ≤ b4 := by rw [hb4]; exact Nat.le_of_lt hz1
  have hb45 : b4 < b5 := by rw [hb4, hb5]; omega
  have hbw5 : w.heap.size ≤ b5 := by omega
  clear hw6 hb4 hb5 x1
  have HE36 := Lib.hid (Ext.trans HE34.out HE46.out)
  have B16 := Lib.hid ((HE36.out.below.block _ (lt_of_block B13.out)).trans B13.out)
  have HM6 := Lib.hid (HM3.out.ext HE36.out)
  have HI6 := Lib.hid (HI4.out.ext HE46.out)
  refine ⟨trivial, callsIn_wide.2 ((long_any hl hk1 hk6 hen _ n0 a4 c4 w6 rfl HM6.out HG0.out HI6.out hc4).mono ?_)⟩
  rintro e w7 ⟨rfl, hm7, hmo7⟩
  have HS7 := Lib.hid (show SrI A k z l w w.heap.size b4 b5 n0 a4 c4 (.slice none 0 0) (([] : List Nat).map Int.ofNat) w7 from by
    have h1 := hmo7.cells HM6.out B16.out
    have h4 := hmo7.cells HM6.out B4.out
    have h5 := hmo7.cells HM6.out B5.out
    refine ⟨hm7.cm, hm7.lm, (HMO3.out.trans (Mo.of_ext HE36.out)).trans hmo7, h1, h4, h5, RowI.nil _ _, hmo7.ints HM6.out HI6.out, hc4, fun hne x e => ⟨by simp [Value.ownBlock], ?_, ?_⟩⟩
    · have := HO0.out hne x e; omega
    · have := HO0.out hne x e; omega)
  clear hm7 hmo7
  obtain ⟨r0, hr0⟩ : ∃ r, lon k z l n0 = r := ⟨_, rfl⟩
  rw [hr0] at HE0 hlr ⊢
  clear hr0
  gi_wp2_with (fail)
  obtain ⟨b13, hb13⟩ : ∃ b, b = w7.heap.size := ⟨_, rfl⟩
  obtain ⟨w8, hw8⟩ : ∃ W, W = w7.alloc (.cells #[.int .i64 (r0 : Int)] 3) := ⟨_, rfl⟩
  try rw [← hw8]
  try rw [← hb13]
  have HS8 := Lib.hid (show SrI A k z l w w.heap.size b4 b5 n0 a4 c4 (.slice none 0 0) (([] : List Nat).map Int.ofNat) w8 from by rw [hw8]; exact HS7.out.ext (ext_allocN _ _))
  have B138 := Lib.hid (show w8.heap[b13]? = some (.cells #[.int .i64 (r0 : Int)] 3 (0, 0)) by rw [hw8, hb13]; exact alloc_here _ _)
  have hbw13 : w.heap.size ≤ b13 := by rw [hb13]; exact HS7.out.mo.size
  clear hw8 hb13
  refine wpIn_loop (fun a' W' => ∃ (n : Nd) (a : Option Addr) (c : Nat) (v : Value) (out : List Nat) (r b13 : Nat), U79 (.agg #[.int .i64 k, .int .i64 z]) (.slice a0 len c0) (.pointer (some ⟨w0.heap.size, 0, none⟩)) (undef) (.slice none 0 0) (.int .i64 0) (.int .i64 0) (.pointer (some ⟨w.heap.size, 0, none⟩)) (.int .i64 0) (v9) (.bool false) (.pointer (some ⟨b4, 0, none⟩)) (.pointer (some ⟨b5, 0, none⟩)) (.pointer (some ⟨b13, 0, none⟩)) a'.tmps ∧ SrI A k z l w w.heap.size b4 b5 n a c v (out.map Int.ofNat) W' ∧ W'.heap[b13]? = some (.cells #[.int .i64 (r : Int)] 3 (0, 0)) ∧ (∀ g, v.ownBlock = some g → g ≠ b13) ∧ w.heap.size ≤ b13 ∧ Gd k z l n ∧ (out ++ (expF k z l r n).1, (expF k z l r n).2) = E ∧ Marks w.heap.size a'.defers W' ∧ out.length + r ≤ 20) muR ?start ?round
  case start =>
    exact ⟨n0, a4, c4, .slice none 0 0, [], r0, b13, U79.of rfl rfl rfl rfl rfl rfl rfl rfl rfl rfl rfl rfl rfl rfl rfl, HS8.out, B138.out, fun g e => (by simp [Value.ownBlock] at e), hbw13, HG0.out, by rw [List.nil_append]; exact HE0.out, Marks.nil _ _, by simp; omega⟩
  case round =>
    rintro ⟨t, ds⟩ W ⟨n, a, c, v, out, r, b13, ⟨u, rfl⟩, hS, hb, hv13, hbw13, hg, hexp, hmk, hln⟩
    have HS := Lib.hid hS
    have HB := Lib.hid hb
    have HV := Lib.hid hv13
    have HG := Lib.hid hg
    have HX0 := Lib.hid hexp
    have HMK := Lib.hid hmk
    have HLN := Lib.hid hln
    have HMW0 := Lib.hid (hS.mem HM.out)
    have q13 := cell_of hb (i := 0) rfl
    have q1 := cell_of hS.x1 (i := 0) rfl
    have q40 := cell_of hS.x4 (i := 0) rfl
    have q41 := cell_of hS.x4 (i := 1) rfl
    rw [muR_at (b := b13) rfl q13]
    clear hS hb hv13 hg hexp hmk hln
    cases r with
    | zero =>
      have g0 : decide ((0 : Int) < ((0 : Nat) : Int)) = false := by simp
      have HEa := Lib.hid (show E.1 = out by rw [← HX0.out]; simp [expF])
      have HEb := Lib.hid (show E.2 = n by rw [← HX0.out]; rfl)
      have hand := i64_andNot (must l) n.1 (pow_le62 (must_lt l) hl) (pow_le62 HG.out.lt hl)
      obtain ⟨U, hU⟩ : ∃ U, andN (must l) n.1 = U := ⟨_, rfl⟩
      have HU := Lib.hid (show U < 2 ^ 62 by rw [← hU]; exact pow_le62 (andN_le (must_lt l)) hl)
      have HIA := Lib.hid (fun j => ix_at (l := l) (n := n) (j := j))
      have HIN := Lib.hid (ix_no (l := l) (n := n))
      rw [hU] at hand HIA HIN
      clear hU
      have hlen12 : len ≤ 12 := by have := HL.out; omega
      gi_wp2_with (fail)
      gi_loopw [61] (fun i wr => ∃ j : Nat, j ≤ len ∧ i = .int .i64 (j : Int) ∧ Ext W wr ∧ ∀ i', i' < j → U.testBit i' = false) (fun i _ => len - (intOf i).toNat)
      case atStart => exact ⟨0, Nat.zero_le _, rfl, Below.refl _ _, fun i' h => absurd h (Nat.not_lt_zero _)⟩
      case round =>
        obtain ⟨j, hj, rfl, hE, hno⟩ := hrel
        have HEr := Lib.hid hE
        have HNo := Lib.hid hno
        have q1 := cell_of ((HEr.out.below.block _ (lt_of_block HS.out.x1)).trans HS.out.x1) (i := 0) rfl
        have q40 := cell_of ((HEr.out.below.block _ (lt_of_block HS.out.x4)).trans HS.out.x4) (i := 0) rfl
        have q5 := cell_of ((HEr.out.below.block _ (lt_of_block HS.out.x5)).trans HS.out.x5) (i := 0) rfl
        have qm := cell_of ((HEr.out.below.block _ (lt_of_block HMW0.out.sr.box)).trans HMW0.out.sr.box) (i := 4) rfl
        clear hE hno
        by_cases hlt : j < len
        · have hsh := shl_one (i := j) (by omega)
          have hand2 := i64_and U (2 ^ j) HU.out (pow_small (by omega))
          have hi0 : (0 : Int) ≤ (j : Int) := by omega
          have hi1 : (j : Int) < (len : Int) := by omega
          have hi64 : (j : Int) ≤ 64 := by omega
          have HT := Lib.hid (and_pow_zero U j)
          generalize U &&& 2 ^ j = T at *
          generalize 2 ^ j = P2 at *
          cases hbit : U.testBit j with
          | true =>
            have HIX := Lib.hid (HIA.out j (by rw [HL.out]; exact hlt) hbit HNo.out)
            have g1 : ((T : Int) != 0) = true := by
              have : ¬ T = 0 := fun e => by rw [HT.out.1 e] at hbit; cases hbit
              rw [bne_iff_ne]; omega
            clear hbit
            gi_wp2_with (fail)
            refine wpIn_wide.2 ?_
            go_quiet (fail)
            have HEd := Lib.hid (show Ext W (wr.drewN nq) from Ext.drewN' HEr.out)
            go_wp2
            gi_wp2
            refine leaves_marks ds _ (HMK.out.keep (fun D _ hD => (HEd.out.below.block _ (lt_of_block hD)).trans hD)) fun W' e1 e2 e3 e4 e5 e6 => ?_
            have hs := HS.out.ext HEd.out
            have hl1 := HM.out.cm.lt
            have hl2 := HM.out.lm.lt
            have hmo : Mo A.c1 A.c2 w W' := ⟨e1.trans hs.mo.os, e2.trans hs.mo.tape, e3.trans hs.mo.output, Nat.le_trans hs.mo.size e4, fun b hb h1 h2 => (e5 b hb).trans (hs.mo.block b hb h1 h2)⟩
            have hs' := hs.to e6 hmo (hs.cm.block (e5 _ hl1)) (hs.lm.block (e5 _ hl2))
            have hrv := HRv.out
            rw [HEa.out, HEb.out, HIX.out] at hrv
            subst hrv
            exact ⟨.tuple #[v, .int .i64 (j : Int), .int .i64 0], by simp [results, Tryd.f18, go_sem], v, rfl, hs'.row.le HEW.out.size, HFRESH.out _ hmo⟩
          | false =>
            have hb := hbit
            have g1 : ((T : Int) != 0) = false := by rw [HT.out.2 hbit]; rfl
            have HBF := Lib.hid hbit
            clear hb hbit
            gi_wp2_with (fail)
            refine wpIn_wide.2 ?_
            go_quiet (fail)
            have HEd := Lib.hid (show Ext W (wr.drewN nq) from Ext.drewN' HEr.out)
            go_wp2
            gi_wp2
            go_roundw
            case rel => exact ⟨j + 1, by omega, by go_num, HEd.out, fun i' h => by
              rcases Nat.lt_or_ge i' j with h0 | h0
              · exact HNo.out i' h0
              · obtain rfl : i' = j := by omega
                exact HBF.out⟩
            case measure => simp [intOf]; omega
        · have hjl : j = len := by omega
          subst hjl
          have HIX := Lib.hid (HIN.out (by rw [HL.out]; exact HNo.out))
          have HEd := HEr
          gi_wp2
          refine leaves_marks ds _ (HMK.out.keep (fun D _ hD => (HEd.out.below.block _ (lt_of_block hD)).trans hD)) fun W' e1 e2 e3 e4 e5 e6 => ?_
          have hs := HS.out.ext HEd.out
          have hl1 := HM.out.cm.lt
          have hl2 := HM.out.lm.lt
          have hmo : Mo A.c1 A.c2 w W' := ⟨e1.trans hs.mo.os, e2.trans hs.mo.tape, e3.trans hs.mo.output, Nat.le_trans hs.mo.size e4, fun b hb h1 h2 => (e5 b hb).trans (hs.mo.block b hb h1 h2)⟩
          have hs' := hs.to e6 hmo (hs.cm.block (e5 _ hl1)) (hs.lm.block (e5 _ hl2))
          have hrv := HRv.out
          rw [HEa.out, HEb.out, HIX.out] at hrv
          subst hrv
          exact ⟨.tuple #[v, .int .i64 (-1), .int .i64 0], by simp [results, Tryd.f18, go_sem], v, rfl, hs'.row.le HEW.out.size, HFRESH.out _ hmo⟩
    | succ r =>
      obtain ⟨r1, hr1⟩ : ∃ r1 : Int, ((r + 1 : Nat) : Int) = r1 := ⟨_, rfl⟩
      rw [hr1] at q13 HB
      have HR1 := Lib.hid (show r1 = (r : Int) + 1 by rw [← hr1]; simp)
      have g0 : decide (0 < r1) = true := by rw [HR1.out]; simp
      clear hr1
      gi_wp2_with (fail)
      refine ⟨trivial, callsIn_wide.2 ((next_any n a c W HMW0.out.sr HS.out.st).mono ?_)⟩
      rintro e W2 ⟨bs, bn, rfl, hR, hE⟩
      have HR2 := Lib.hid hR
      have HS2 := Lib.hid (HS.out.ext hE)
      have HB2 := Lib.hid ((hE.below.block _ (lt_of_block HB.out)).trans HB.out)
      have HMK2 := Lib.hid (HMK.out.keep (W' := W2) (fun D _ hD => (hE.below.block _ (lt_of_block hD)).trans hD))
      have HSZ2 := Lib.hid (show W.heap.size ≤ W2.heap.size from hE.size)
      clear hE hR q1 q40 q41 q13 g0
      gi_wp2_with (fail)
      have hws : w.heap.size ≤ W2.heap.size := HS2.out.mo.size
      have hc1 : A.c1 < W2.heap.size := Nat.lt_of_lt_of_le HM.out.cm.lt hws
      have hc2 : A.c2 < W2.heap.size := Nat.lt_of_lt_of_le HM.out.lm.lt hws
      refine wpIn_range_hand (gf := 67) (lb := #[.pointer (some ⟨bs, 0, none⟩), .pointer (some ⟨bn, 0, none⟩)]) rfl enters_nxS (encs := encX) (next1_iter 8 A k z l n a c bs bn W.heap.size HG.out HS2.out.cl hl hk1 hk6 hen) (fun _ => rfl)
        (fun j X => SrJ A k z l w w.heap.size b4 b5 n a c v (out.map Int.ofNat) (fun m => decide (lon k z l m = r)) bs bn W2 j X ∧ X.heap[b13]? = some (.cells #[.int .i64 r1] 3 (0, 0)))
        (fun cd X => cd = .exit 2 ∧ SrB2 A k z l w w.heap.size b4 b5 b13 n (out.map Int.ofNat) (fun m => decide (lon k z l m = r)) W2 X ∧ X.heap[b13]? = some (.cells #[.int .i64 r1] 3 (0, 0)))
        (OwnFrom.and (SrJ.own W2.heap.size (Nat.le_refl _) hws hc1 hc2) (fun s X Y row hs hg hr => own_cells W2.heap.size () X Y row hs hg hr))
        (fun s X Y row hs hg hr => ⟨hs.1, SrB2.own W2.heap.size (Nat.le_refl _) hws hc1 hc2 () X Y row hs.2.1 hg hr, own_cells W2.heap.size () X Y row hs.2.2 hg hr⟩)
        (fun j X h => h.1.rd HM.out HSZ2.out) (fun j X h hj hs => ⟨h.1.step (fun m' hm' => by rw [hs] at hm'; cases hm'), h.2⟩)
        ⟨⟨HS2.out, HR2.out.bs, HR2.out.bn, Nat.le_refl _, fun D hD => hD, fun i hi => absurd hi (Nat.not_lt_zero _)⟩, HB2.out⟩
        ?body ?done ?stop
      case body =>
        rintro l' j ⟨ix, n1, a1, c1⟩ WR hl' hI hj ⟨rfl, hx, hA', hc', hor⟩
        dsimp only at hx hA' hc' hor
        have HI := Lib.hid hI
        have HX1 := Lib.hid hx
        have HA1 := Lib.hid hA'
        have HOR := Lib.hid hor
        have HEX := Lib.hid (ext_allocN WR (.cells #[.int .i64 (n1.1 : Int), .slice a1 n1.2.length c1] tNd))
        clear hI hx hA' hor
        dsimp only [encX]
        gi_wp2
        refine ⟨keepsFrom_ext HEX.out, fun WB hsz hK => ?_⟩
        have hI2 := hK Nat _ (SrJ.own (A := A) (k := k) (z := z) (l := l) (w := w) (b1 := w.heap.size) (b4 := b4) (b5 := b5) (n := n) (a := a) (c := c) (v := v) (out := out.map Int.ofNat) (P := (fun m => decide (lon k z l m = r))) (bs := bs) (bn := bn) (W2 := W2) W2.heap.size (Nat.le_refl _) hws hc1 hc2) ix (HI.out.1.ext HEX.out)
        have hB2 := hK Unit _ (own_cells W2.heap.size) () ((HEX.out.below.block _ (lt_of_block HI.out.2)).trans HI.out.2)
        have hN2 := hK Unit _ (own_cells W2.heap.size) () (alloc_here WR (.cells #[.int .i64 (n1.1 : Int), .slice a1 n1.2.length c1] tNd))
        have hA2 := hK Unit _ (own_intsU W2.heap.size a1 n1.2) () (HA1.out.ext HEX.out)
        have hM2 := hI2.s.mem HM.out
        have HI2 := Lib.hid hI2
        have HB2 := Lib.hid hB2
        have HN2 := Lib.hid hN2
        have HA2 := Lib.hid hA2
        have HM2 := Lib.hid hM2
        have HGN := Lib.hid (HG.out.nxt hk1 hk6 HX1.out)
        have HIC := Lib.hid (fun W' (hv : Mv A k z l WB W') => long_any hl hk1 hk6 hen _ n1 a1 c1 W' rfl (hv.2 hM2) (HG.out.nxt hk1 hk6 HX1.out) (hv.1.ints hM2 hA2) hc')
        have hRefl := fun W => Mv.refl A k z l W
        have hb75 : WR.heap.size ≠ b5 := by have := lt_of_block HS2.out.x5; have := HI.out.1.sz; omega
        have hwr : IntKind.i64.wrap (r1 - 1) = (r : Int) := by rw [IntKind.wrap_i64]; have := HR1.out; have := HLN.out; omega
        clear hI2 hB2 hN2 hA2 hM2 hK
        obtain ⟨bq, hbq⟩ : ∃ bq, (((lon k z l n1 : Nat) : Int) == (r : Int)) = bq := ⟨_, rfl⟩
        have HBQ := Lib.hid (show bq = decide (lon k z l n1 = r) by rw [← hbq, Bool.eq_iff_iff]; simp; omega)
        obtain ⟨q, hq⟩ : ∃ q, lon k z l n1 = q := ⟨_, rfl⟩
        rw [hq] at hbq HIC HBQ
        have HQ := Lib.hid hq
        clear hq
        gi_wp2_with (fail)
        refine wpIn_region_tail (l1 := [_, _, _, _, _, _]) (l2 := []) (by kernel_rfl) (Mv A k z l) (fun W => Mv.refl A k z l W) (fun W => Mv.of_ext (show Below W.heap.size W { W with drawn := W.drawn + 1 } from ⟨rfl, rfl, rfl, Nat.le_refl _, fun _ _ => rfl⟩)) Mv.trans
          (fun i s W => match i with
            | 0 => s 0 = .pointer (some ⟨A.p, 0, none⟩)
            | 1 => s 1 = .agg #[.int .i64 (n1.1 : Int), .slice a1 n1.2.length c1]
            | 2 => s 2 = .int .i64 (q : Int)
            | 3 => s 3 = .int .i64 r1
            | 4 => s 4 = .int .i64 (r : Int)
            | 5 => s 5 = .bool bq
            | _ => True)
          (fun i => [i])
          (by
            intro i s s' W W' h hs hE
            have hs := hs i (by simp)
            match i, h, hs with
            | 0, h, hs => exact hs.trans h
            | 1, h, hs => exact hs.trans h
            | 2, h, hs => exact hs.trans h
            | 3, h, hs => exact hs.trans h
            | 4, h, hs => exact hs.trans h
            | 5, h, hs => exact hs.trans h
            | i + 6, h, hs => exact trivial)
          (by kernel_rfl) (by kernel_rfl) (by kernel_rfl) 79 rfl (by kernel_rfl) (by kernel_rfl) ?_ ?_
        · intro i op ho a' W hA
          have hI3 := HI2.out.mv HM.out hA.rel
          have q1 := cell_of hI3.s.x1 (i := 0) rfl
          have hN3 := hA.rel.1.cells HM2.out HN2.out
          have q70 := cell_of hN3 (i := 0) rfl
          have q71 := cell_of hN3 (i := 1) rfl
          have q13 := cell_of (hA.rel.1.cells HM2.out HB2.out) (i := 0) rfl
          match i, ho with
          | 0, ho =>
            obtain rfl := Option.some.inj ho
            have e1 : a'.eval (.tmp 7) = .pointer (some ⟨w.heap.size, 0, none⟩) := hA.keep 7 (by kernel_rfl)
            refine GoesI.value (.pointer (some ⟨A.p, 0, none⟩)) rfl (by intro c hc; cases hc) ?_ (hRefl _) (fun s h1 h2 => h1 rfl)
            simp only [execOp, e1]
            simp [go_sem, q1, q70, q71, q13, hwr, hbq]
          | 1, ho =>
            obtain rfl := Option.some.inj ho
            have e1 : a'.eval (.tmp 15) = .pointer (some ⟨WR.heap.size, 0, none⟩) := hA.keep 15 (by kernel_rfl)
            refine GoesI.value (.agg #[.int .i64 (n1.1 : Int), .slice a1 n1.2.length c1]) rfl (by intro c hc; cases hc) ?_ (hRefl _) (fun s h1 h2 => h1 rfl)
            simp only [execOp, e1]
            simp [go_sem, q1, q70, q71, q13, hwr, hbq]
          | 2, ho =>
            obtain rfl := Option.some.inj ho
            have e1 : a'.eval (.tmp 47) = .pointer (some ⟨A.p, 0, none⟩) := (sv_dst (l := _) rfl).symm.trans (hA.new 0 (by decide) (by kernel_rfl))
            have e2 : a'.eval (.tmp 48) = .agg #[.int .i64 (n1.1 : Int), .slice a1 n1.2.length c1] := (sv_dst (l := _) rfl).symm.trans (hA.new 1 (by decide) (by kernel_rfl))
            refine GoesI.call 41 #[.pointer (some ⟨A.p, 0, none⟩), .agg #[.int .i64 (n1.1 : Int), .slice a1 n1.2.length c1]] rfl (by intro c hc; cases hc) ?_ ((HIC.out W hA.rel).mono fun e W' he => ?_)
            · have en := enters_fn Tryd.func41 (by kernel_rfl) rfl
              simp [Act.eval] at e1 e2
              simp [execOp, go_sem, e1, e2, en]
            · obtain ⟨rfl, h1, h2⟩ := he
              exact ⟨_, rfl, ⟨h2, fun _ => h1⟩, fun s h1 h2 => h1 rfl⟩
          | 3, ho =>
            obtain rfl := Option.some.inj ho
            have e1 : a'.eval (.tmp 13) = .pointer (some ⟨b13, 0, none⟩) := hA.keep 13 (by kernel_rfl)
            refine GoesI.value (.int .i64 r1) rfl (by intro c hc; cases hc) ?_ (hRefl _) (fun s h1 h2 => h1 rfl)
            simp only [execOp, e1]
            simp [go_sem, q1, q70, q71, q13, hwr, hbq]
          | 4, ho =>
            obtain rfl := Option.some.inj ho
            have e1 : a'.eval (.tmp 50) = .int .i64 r1 := (sv_dst (l := _) rfl).symm.trans (hA.new 3 (by decide) (by kernel_rfl))
            refine GoesI.value (.int .i64 (r : Int)) rfl (by intro c hc; cases hc) ?_ (hRefl _) (fun s h1 h2 => h1 rfl)
            simp only [execOp, e1]
            simp [go_sem, q1, q70, q71, q13, hwr, hbq]
          | 5, ho =>
            obtain rfl := Option.some.inj ho
            have e1 : a'.eval (.tmp 49) = .int .i64 (q : Int) := (sv_dst (l := _) rfl).symm.trans (hA.new 2 (by decide) (by kernel_rfl))
            have e2 : a'.eval (.tmp 51) = .int .i64 (r : Int) := (sv_dst (l := _) rfl).symm.trans (hA.new 4 (by decide) (by kernel_rfl))
            refine GoesI.value (.bool bq) rfl (by intro c hc; cases hc) ?_ (hRefl _) (fun s h1 h2 => h1 rfl)
            simp only [execOp, e1, e2]
            simp [go_sem, q1, q70, q71, q13, hwr, hbq]
          | i + 6, ho => cases ho
        · intro vs w3b hvs hG hΦ
          obtain ⟨y0, y1, y2, y3, y4, y5, rfl⟩ : ∃ y0 y1 y2 y3 y4 y5, vs = y0 :: y1 :: y2 :: y3 :: y4 :: y5 :: [] := by
            match vs, hvs with
            | y0 :: y1 :: y2 :: y3 :: y4 :: y5 :: [], _ => exact ⟨_, _, _, _, _, _, rfl⟩
          have e0 : y0 = .pointer (some ⟨A.p, 0, none⟩) := hΦ 0 (by decide)
          subst e0
          have e1 : y1 = .agg #[.int .i64 (n1.1 : Int), .slice a1 n1.2.length c1] := hΦ 1 (by decide)
          subst e1
          have e2 : y2 = .int .i64 (q : Int) := hΦ 2 (by decide)
          subst e2
          have e3 : y3 = .int .i64 r1 := hΦ 3 (by decide)
          subst e3
          have e4 : y4 = .int .i64 (r : Int) := hΦ 4 (by decide)
          subst e4
          have e5 : y5 = .bool bq := hΦ 5 (by decide)
          subst e5
          clear hΦ hvs
          simp only [putAll, Act.put, List.setIfInBounds_toArray, List.set_cons_succ, List.set_cons_zero]
          have hmv : Mv A k z l WB w3b := hG
          have HMO3 := Lib.hid hmv.1
          have HI3 := Lib.hid (HI2.out.mv HM.out hmv)
          have HN3 := Lib.hid (hmv.1.cells HM2.out HN2.out)
          have HA3 := Lib.hid (hmv.1.ints HM2.out HA2.out)
          have HB3 := Lib.hid (hmv.1.cells HM2.out HB2.out)
          clear hmv hG
          cases bq with
          | false =>
            have HBF := HBQ
            gi_wp2
            exact ⟨HMO3.out.keeps hc1 hc2, HI3.out.step (fun m' hm' => by
              rw [HX1.out] at hm'
              cases hm'
              rw [HQ.out]; exact HBF.out.symm), HB3.out⟩
          | true =>
            have hs7 : WR.heap.size < w3b.heap.size := lt_of_block HN3.out
            gi_wp2_with (fail)
            refine wpIn_region_tailk (l1 := [_, _, _, _, _, _]) (l2 := [_]) (by kernel_rfl) (GrV v b5) (fun W => GrV.refl v b5 W) (fun W => ⟨rfl, rfl, rfl, Nat.le_refl _, fun _ _ _ _ => rfl⟩) GrV.trans
              (fun i s W => match i with
                | 0 => s 0 = v
                | 1 => s 1 = .int .i64 (ix : Int)
                | 2 => ∃ g, s 2 = .slice (some ⟨g, 0, none⟩) 1 1 ∧ w3b.heap.size ≤ g ∧ W.heap[g]? = some (.cells #[.int .i64 (ix : Int)] 3 (0, 0))
                | 4 => s 4 = .agg #[.int .i64 (n1.1 : Int), .slice a1 n1.2.length c1]
                | _ => True)
              (JB w.heap.size w3b.heap.size b5 v (out.map Int.ofNat) (out.map Int.ofNat ++ [(ix : Int)])) (fun s => JB.init _ _ (RowI.kept HI3.out.s.row (fun _ _ => rfl)) HI3.out.s.x5)
              (fun i => [i])
              (by
                intro i s s' W W' h hs hE
                match i, h, hs with
                | 0, h, hs => exact (hs 0 (by simp)).trans h
                | 1, h, hs => exact (hs 1 (by simp)).trans h
                | 2, h, hs => exact Exists.elim h (fun g hh => ⟨g, (hs 2 (by simp)).trans hh.1, hh.2.1, (hE.block _ (lt_of_block hh.2.2) (fun e => by have := HI3.out.s.row.blk e.symm; omega) (fun e => by have := lt_of_block HI3.out.s.x5; omega)).trans hh.2.2⟩)
                | 3, h, hs => exact trivial
                | 4, h, hs => exact (hs 4 (by simp)).trans h
                | 5, h, hs => exact trivial
                | i + 6, h, hs => exact trivial)
              (by kernel_rfl) (by kernel_rfl) (by kernel_rfl) 79 rfl (by kernel_rfl) (by kernel_rfl) ?_ ?_
            · intro i op ho listed a' W hA
              have hN4 := (hA.rel.block _ hs7 (row_ne HI3.out.s.row HN3.out (by decide)) hb75).trans HN3.out
              have q70 := cell_of hN4 (i := 0) rfl
              have q71 := cell_of hN4 (i := 1) rfl
              match i, ho with
              | 0, ho =>
                obtain rfl := Option.some.inj ho
                have e1 : a'.eval (.tmp 12) = .pointer (some ⟨b5, 0, none⟩) := hA.keep 12 (by kernel_rfl)
                have h5n : listed.getD 5 false = false := by
                  cases e : listed.getD 5 false with
                  | false => rfl
                  | true =>
                    have h := (hA.jnv.c1 e).1
                    rw [hA.nl] at h; cases h
                have q5 := cell_of (hA.jnv.c0 h5n) (i := 0) rfl
                refine GoesKI.value (v) rfl (by intro c hc; cases hc) ?_ (GrV.refl v b5 _) (fun s h1 h2 => hA.jnv.other (by decide) (by decide) h2 (Below.refl _ _)) (fun s h1 h2 => h1 rfl)
                simp only [execOp, e1]
                simp [go_sem, q5]
              | 1, ho =>
                obtain rfl := Option.some.inj ho
                have e1 : a'.eval (.tmp 14) = .int .i64 (ix : Int) := hA.keep 14 (by kernel_rfl)
                refine GoesKI.value (.int .i64 (ix : Int)) rfl (by intro c hc; cases hc) ?_ (GrV.refl v b5 _) (fun s h1 h2 => hA.jnv.other (by decide) (by decide) h2 (Below.refl _ _)) (fun s h1 h2 => h1 rfl)
                simp only [execOp, e1]
                simp [go_sem, q70, q71]
              | 2, ho =>
                obtain rfl := Option.some.inj ho
                have e1 : a'.eval (.tmp 54) = .int .i64 (ix : Int) := (sv_dst (l := _) rfl).symm.trans (hA.new 1 (by decide) (by kernel_rfl))
                refine GoesKI.value (.slice (some ⟨W.heap.size, 0, none⟩) 1 1) (W' := W.alloc (.cells #[.int .i64 (ix : Int)] 3)) rfl (by intro c hc; cases hc) ?_ (GrV.of_ext (ext_allocN _ _)) (fun s h1 h2 => hA.jnv.other (by decide) (by decide) h2 (ext_allocN _ _)) (fun s h1 h2 => ⟨W.heap.size, h1 rfl, hA.rel.size, alloc_here _ _⟩)
                simp only [execOp]
                simp [Act.eval] at e1
                simp [go_sem, e1]
              | 3, ho =>
                obtain rfl := Option.some.inj ho
                have e1 : a'.eval (.tmp 53) = v := (sv_dst (l := _) rfl).symm.trans (hA.new 0 (by decide) (by kernel_rfl))
                have hrow := hA.jnv.r0 hA.nl
                obtain ⟨g, eg, hgS, hg⟩ := hA.new 2 (by decide) (by kernel_rfl)
                have e2 : a'.eval (.tmp 55) = .slice (some ⟨g, 0, none⟩) 1 1 := (sv_dst (l := _) rfl).symm.trans eg
                obtain ⟨v', w', hrun, hr', hg', ho'⟩ := appI_run w.heap.size v (out.map Int.ofNat) W hrow (ix : Int) g hg 27 (by have := HLN.out; simp; omega) (Nat.le_trans (Nat.le_trans HI3.out.s.mo.size (Nat.le_refl _)) hA.rel.size)
                refine GoesKI.value v' (W' := w') rfl (by intro c hc; cases hc) ?_ (GrV.of_grown hg') (fun s h1 h2 => hA.jnv.app hA.nl (by rw [hA.lsz]; decide) hg' (by rw [h1 rfl]; exact hr') (by
                  rw [h1 rfl]
                  rcases ho' with ho' | ho'
                  · exact .inl ho'
                  · exact .inr ⟨_, ho', hA.rel.size⟩)) (fun s h1 h2 => trivial)
                simp only [execOp, resolve, invoke, builtin, Sem.run_bind, Sem.run_pure, Result.andThen_ok, List.map_toArray, List.map_cons, List.map_nil, e1, e2, hrun]
              | 4, ho =>
                obtain rfl := Option.some.inj ho
                have e1 : a'.eval (.tmp 15) = .pointer (some ⟨WR.heap.size, 0, none⟩) := hA.keep 15 (by kernel_rfl)
                refine GoesKI.value (.agg #[.int .i64 (n1.1 : Int), .slice a1 n1.2.length c1]) rfl (by intro c hc; cases hc) ?_ (GrV.refl v b5 _) (fun s h1 h2 => hA.jnv.other (by decide) (by decide) h2 (Below.refl _ _)) (fun s h1 h2 => h1 rfl)
                simp only [execOp, e1]
                simp [go_sem, q70, q71]
              | 5, ho =>
                obtain rfl := Option.some.inj ho
                have e1 : a'.eval (.tmp 12) = .pointer (some ⟨b5, 0, none⟩) := hA.keep 12 (by kernel_rfl)
                have h3 := hA.lanc 3 (by kernel_rfl)
                have h0 := hA.lanc 0 (by kernel_rfl)
                have hrow := (hA.jnv.r1 h3).1
                have hc := hA.jnv.c0 hA.nl
                have hc0 := cell_of hc (i := 0) rfl
                have hf0 := free_of (i := 0) hc
                rw [svb_of (by decide), sv_dst (l := _) (d := 56) rfl] at hrow
                refine GoesKI.skip rfl (by intro c hc; cases hc) (rfl) ?_ (GrV.set _ _) (fun s h2 => by
                  have hj := hA.jnv.store (s' := s) hA.nl (by rw [hA.lsz]; decide) h0 h3 h2
                  rw [svb_of (by decide), sv_dst (l := _) (d := 56) rfl] at hj
                  exact hj) (fun s h2 => trivial)
                obtain ⟨x3, c3, e3, -⟩ := hrow.look
                rw [e3]
                simp only [execOp, e1, e3]
                simp [go_sem, hc0, hf0]
              | i + 6, ho => cases ho
            · intro vs listed w4 hvs hG hJ hall hΦ
              obtain ⟨y0, y1, y2, y3, y4, y5, rfl⟩ : ∃ y0 y1 y2 y3 y4 y5, vs = y0 :: y1 :: y2 :: y3 :: y4 :: y5 :: [] := by
                match vs, hvs with
                | y0 :: y1 :: y2 :: y3 :: y4 :: y5 :: [], _ => exact ⟨_, _, _, _, _, _, rfl⟩
              have h4 : y4 = .agg #[.int .i64 (n1.1 : Int), .slice a1 n1.2.length c1] := hΦ 4 (by decide)
              obtain ⟨hrow, hown⟩ : RowI w.heap.size y3 (out.map Int.ofNat ++ [(ix : Int)]) w4 ∧ (y3.ownBlock = v.ownBlock ∨ ∃ g, y3.ownBlock = some g ∧ w3b.heap.size ≤ g) := hJ.r1 (hall 3 (by decide))
              have h5 : w4.heap[b5]? = some (.cells #[y3] 27 (0, 0)) := (hJ.c1 (hall 5 (by decide))).2.2
              subst h4
              obtain ⟨ax, cx, e3, -⟩ := hrow.look
              subst e3
              have hGV : GrV v b5 w3b w4 := hG
              have hb45 : b4 ≠ b5 := fun e => by have := HI3.out.s.x4; rw [e, HI3.out.s.x5] at this; simp at this
              have h4 := (hGV.block _ (lt_of_block HI3.out.s.x4) (row_ne HI3.out.s.row HI3.out.s.x4 (by decide)) hb45).trans HI3.out.s.x4
              have q40 := cell_of h4 (i := 0) rfl
              have f40 := free_of (i := 0) h4
              have q41 := cell_of h4 (i := 1) rfl
              have f41 := free_of (i := 1) h4
              have hof : n1.2 ≠ [] → ∀ x, a1 = some x → v.ownBlock ≠ some x.block ∧ x.block ≠ b4 ∧ x.block ≠ b5 := by
                intro hne x e
                rcases HOR.out with h | ⟨h, h'⟩
                · have hx := h x e
                  have hxb := HS.out
                  refine ⟨fun e' => ?_, ?_, ?_⟩
                  · have := hxb.row.blk e'; omega
                  · have := lt_of_block hxb.x4; omega
                  · have := lt_of_block hxb.x5; omega
                · have e' : a = some x := by rw [← h]; exact e
                  exact HS.out.of (by rw [← h']; exact hne) x e'
              have HFIN := Lib.hid (HI3.out.s.next2 HM.out hGV hrow h5 hown HA3.out hc' hof hbw4 hbw5)
              have HOWN := Lib.hid hown
              have h135 : b13 ≠ b5 := fun e => by have := HB3.out; rw [e, HI3.out.s.x5] at this; simp at this
              have HH13 := Lib.hid ((hGV.block b13 (lt_of_block HB3.out) (fun e => HV.out b13 e.symm rfl) h135).trans HB3.out)
              have HDM := Lib.hid HI3.out.md
              have HKG := Lib.hid (show KeepsFrom W2.heap.size w3b w4 from ⟨hGV.size, fun b o hB hb ho => (hGV.block b (lt_of_block hb) (fun e => by
                obtain ⟨cs, f, hq⟩ := HI3.out.s.row.cells e.symm
                rw [hb] at hq; cases hq; cases ho) (fun e => by rw [e, HI3.out.s.x5] at hb; cases hb; cases ho)).trans hb⟩)
              have HDK := Lib.hid (show ∀ D : Nat, W2.heap[D]? = some (.deferred (some [])) → w4.heap[D]? = some (.deferred (some [])) from fun D hD => (hGV.block D (lt_of_block (HDM.out D hD)) (fun e => by
                obtain ⟨cs, f, hq⟩ := HI3.out.s.row.cells e.symm
                rw [HDM.out D hD] at hq; cases hq) (fun e => by have := HDM.out D hD; rw [e, HI3.out.s.x5] at this; cases this)).trans (HDM.out D hD))
              have HH5 := Lib.hid h5
              have HH4 := Lib.hid h4
              clear hΦ hvs hJ hall hG hGV hrow hown h4 h5
              simp only [putAll, Act.put, List.setIfInBounds_toArray, List.set_cons_succ, List.set_cons_zero]
              gi_wp2
              refine ⟨(HMO3.out.keeps hc1 hc2).trans (HKG.out.trans (((KeepsOthers.setCell _ _ _).from _).trans ((KeepsOthers.setCell _ _ _).from _))), rfl, ⟨fun D hD => ?_, ix, n1, a1, c1, _, hj, HX1.out, by rw [HQ.out]; exact HBQ.out.symm, HI3.out.nx, HFIN.out, fun g e => ?_⟩, ?_⟩
              rotate_left
              · rcases HOWN.out with h0 | ⟨g', h0, hg'⟩
                · exact HV.out g (h0.symm.trans e)
                · have hgg : g' = g := Option.some.inj (h0.symm.trans e)
                  have := lt_of_block HB3.out
                  omega
              · have d4 : b13 ≠ b4 := fun e => by have := HH13.out; rw [e, HH4.out] at this; simp only [Option.some.injEq, Obj.cells.injEq] at this; exact absurd this.2.1 (by decide)
                rw [Below.heap_setCell _ ⟨b4, 1, none⟩ _ _ d4, Below.heap_setCell _ ⟨b4, 0, none⟩ _ _ d4]
                exact HH13.out
              have hd := HDK.out D hD
              have d4 : D ≠ b4 := fun e => by rw [e, HH4.out] at hd; cases hd
              rw [Below.heap_setCell _ ⟨b4, 1, none⟩ _ _ d4, Below.heap_setCell _ ⟨b4, 0, none⟩ _ _ d4]
              exact hd
      case done =>
        intro D X hD hI hK
        have HI := Lib.hid hI
        have hmk : Marks w.heap.size ({ target := .collected D, args := #[] } :: ds) X := by
          refine (HMK2.out.keep (W' := X) (fun E hE hED => hI.1.md E hED)).cons (Nat.le_trans hws hD) hK (fun d hd E e => ?_)
          obtain ⟨E', e', _, hE'⟩ := HMK2.out.all d hd
          rw [e] at e'
          cases e'
          exact Nat.lt_of_lt_of_le (lt_of_block hE') hD
        have HSTEP := Lib.hid (show (out ++ (expF k z l r n).1, (expF k z l r n).2) = E from by
          rw [← HX0.out, exp_skip (fun i hi m' hm' => by simpa using hI.1.nx i hi m' hm')])
        have HMX := Lib.hid hmk
        have q13 := cell_of hI.2 (i := 0) rfl
        have hw64 : wrap64 (r1 - 1) = (r : Int) := by have := HR1.out; have := HLN.out; unfold wrap64; omega
        clear hI hmk hK
        gi_wp2_with (fail)
        have HZ := Lib.hid (ext_allocN X (.cells #[.int .i64 (r : Int)] 3))
        try rw [hw64]
        refine ⟨⟨n, a, c, v, out, r, X.heap.size, U79.of rfl rfl rfl rfl rfl rfl rfl rfl rfl rfl rfl rfl rfl rfl rfl, HI.out.1.s.ext HZ.out, alloc_here _ _, fun g e => by have := HI.out.1.s.row.blk e; omega, HI.out.1.s.mo.size, HG.out, HSTEP.out, HMX.out.keep (fun D _ hD => (HZ.out.below.block _ (lt_of_block hD)).trans hD), by have := HLN.out; omega⟩, ?_⟩
        rw [muR_at (b := X.heap.size) (r := r) rfl (cell_of (alloc_here _ _) (i := 0) rfl)]
        omega
      case stop =>
        rintro D cd X hD ⟨rfl, hB, hX13⟩ hK
        obtain ⟨j, m, a', c', v', h1, h2, h3, h4, h5, h6⟩ := hB.at_
        have hmk : Marks w.heap.size ({ target := .collected D, args := #[] } :: ds) X := by
          refine (HMK2.out.keep (W' := X) (fun E hE hED => hB.md E hED)).cons (Nat.le_trans hws hD) hK (fun d hd E e => ?_)
          obtain ⟨E', e', _, hE'⟩ := HMK2.out.all d hd
          rw [e] at e'
          cases e'
          exact Nat.lt_of_lt_of_le (lt_of_block hE') hD
        have HSTOP := Lib.hid (And.intro h5 (And.intro (HG.out.nxt hk1 hk6 h2) (And.intro h6 hmk)))
        have HSTEP := Lib.hid (show ((out ++ [j]) ++ (expF k z l r m).1, (expF k z l r m).2) = E from by
          rw [← HX0.out, exp_step h1 h2 (by simpa using h3) (fun i hi m' hm' => by simpa using h4 i hi m' hm'), List.append_assoc]; rfl)
        have HX13 := Lib.hid hX13
        have q13 := cell_of hX13 (i := 0) rfl
        have hw64 : wrap64 (r1 - 1) = (r : Int) := by have := HR1.out; have := HLN.out; unfold wrap64; omega
        clear hB h1 h2 h3 h4 h5 h6 hmk hK hX13
        gi_wp2_with (fail)
        have HZ := Lib.hid (ext_allocN X (.cells #[.int .i64 (r : Int)] 3))
        try rw [hw64]
        refine ⟨⟨m, a', c', v', out ++ [j], r, X.heap.size, U79.of rfl rfl rfl rfl rfl rfl rfl rfl rfl rfl rfl rfl rfl rfl rfl, by rw [List.map_append]; exact HSTOP.out.1.ext HZ.out, alloc_here _ _, fun g e => by have := HSTOP.out.1.row.blk e; omega, HSTOP.out.1.mo.size, HSTOP.out.2.1, HSTEP.out, HSTOP.out.2.2.2.keep (fun D _ hD => (HZ.out.below.block _ (lt_of_block hD)).trans hD), by have := HLN.out; rw [List.length_append, List.length_singleton]; omega⟩, ?_⟩
        rw [muR_at (b := X.heap.size) (r := r) rfl (cell_of (alloc_here _ _) (i := 0) rfl)]
        omega
theorem Explain_any (k z : Int) (l : List Cl) (a : Option Addr) (c : Nat) (w : World) (h : HsAt w a l) (hlen : l.length ≤ maxLen) (ht : TabW w) :
    Calls Tryd.prog 18 #[.agg #[.int .i64 k, .int .i64 z], .slice a l.length c] w (XpP w (xplR k z l)) := by
  by_cases hb : srE k z l = 0
  · exact Explain_ok k z l a c w h ht hb
  · exact Explain_bad k z l a c w h hlen hb
end Go.Proofs.YtmbkjccckmlacaaDoor

namespace Go.Proofs.YtmbkjccckmlacaaDoor
open Go.RowKit
set_option linter.unusedVariables false
set_option linter.unusedSimpArgs false

/-- the history of reads -/
def rdsL (last : Int) : List Cl := [⟨0, 2, 1, 0, 0, 5⟩, ⟨1, 1, 0, 1, 1, 2⟩, ⟨1, 1, 0, last, 3, 4⟩]
theorem srh_rds1 : srhR 1 0 (rdsL 1) = ([0, 1, 2], true, 0) := by kernel_rfl
theorem srh_rds0 : (srhR 1 0 (rdsL 0)).2 = (false, 0) := by kernel_rfl
theorem xpl_rds0 : xplR 1 0 (rdsL 0) = ([0, 1], 2, 0) := by kernel_rfl
/-- a fresh history -/
def RdsP (w : World) (last : Int) (e : Ending) (w' : World) : Prop := ∃ a, e = .returned (.slice a 3 3) ∧ HsAt w' a (rdsL last) ∧ Ext w w'
set_option maxRecDepth 100000 in
theorem reads_any (last : Int) (w : World) : Calls Tryd.prog 31 #[.int .i64 last] w (RdsP w last) := by
  have HE := Lib.hid (fun o => ext_allocN w o)
  go_enter Tryd.func31, Tryd.ntmps31
  go_wp2
  go_ret
  refine ⟨_, rfl, fun i hi => ?_, HE.out _⟩
  have hb := alloc_here w (.cells #[.int .i64 0, .int .i64 2, .int .i64 1, .int .i64 0, .int .i64 0, .int .i64 5, .int .i64 1, .int .i64 1, .int .i64 0, .int .i64 1, .int .i64 1, .int .i64 2, .int .i64 1, .int .i64 1, .int .i64 0, .int .i64 last, .int .i64 3, .int .i64 4] 48)
  match i, hi with
  | 0, _ => exact ⟨_, 0, rfl, cell_of hb rfl, cell_of hb rfl, cell_of hb rfl, cell_of hb rfl, cell_of hb rfl, cell_of hb rfl⟩
  | 1, _ => exact ⟨_, 0, rfl, cell_of hb rfl, cell_of hb rfl, cell_of hb rfl, cell_of hb rfl, cell_of hb rfl, cell_of hb rfl⟩
  | 2, _ => exact ⟨_, 0, rfl, cell_of hb rfl, cell_of hb rfl, cell_of hb rfl, cell_of hb rfl, cell_of hb rfl, cell_of hb rfl⟩
set_option maxRecDepth 100000 in
/-- the same numbers -/
theorem SameI_any (l m : List Int) (a b : Option Addr) (c d : Nat) (w : World) (hl : l.length ≤ 1000000) (hm : m.length ≤ 1000000) (hA : IntsAt w a l) (hB : IntsAt w b m) :
    Gives Tryd.prog 20 #[.slice a l.length c, .slice b m.length d] w (.bool (decide (l = m))) := by
  unfold Gives
  obtain ⟨R, hR⟩ : ∃ R, decide (l = m) = R := ⟨_, rfl⟩
  rw [hR]
  have HD := Lib.hid hR.symm
  clear hR
  have HA := Lib.hid hA
  have HB := Lib.hid hB
  clear hA hB
  by_cases hn : l.length = m.length
  · obtain ⟨len, hlen⟩ : ∃ n, l.length = n := ⟨_, rfl⟩
    have HL := Lib.hid hlen
    have HM := Lib.hid (show m.length = len by omega)
    rw [hlen, show m.length = len by omega]
    rw [hlen] at hl
    clear hlen hn hm
    have g0 : ((len : Int) != (len : Int)) = false := by simp
    go_enter Tryd.func20, Tryd.ntmps20
    go_wp2_with fail
    go_loopw [5] (fun i wr => ∃ j : Nat, j ≤ len ∧ i = .int .i64 (j : Int) ∧ Ext w wr ∧ ∀ i', i' < j → l[i']? = m[i']?) (fun i _ => len - (intOf i).toNat)
    case atStart => exact ⟨0, Nat.zero_le _, rfl, Below.refl _ _, fun i' h => absurd h (Nat.not_lt_zero _)⟩
    case round =>
      obtain ⟨j, hj, rfl, hE, hs⟩ := hrel
      have HE := Lib.hid hE
      have HS := Lib.hid hs
      clear hE hs
      by_cases hlt : j < len
      · have hjl : j < l.length := by rw [HL.out]; exact hlt
        have hjm : j < m.length := by rw [HM.out]; exact hlt
        obtain ⟨b1, o1, rfl, x1⟩ := (HA.out.ext HE.out) j hjl
        obtain ⟨b2, o2, rfl, x2⟩ := (HB.out.ext HE.out) j hjm
        have hi0 : (0 : Int) ≤ (j : Int) := by omega
        have hi1 : (j : Int) < (len : Int) := by omega
        have hg1 : l[j]? = some l[j] := List.getElem?_eq_getElem hjl
        have hg2 : m[j]? = some m[j] := List.getElem?_eq_getElem hjm
        have HG := Lib.hid (And.intro hg1 hg2)
        clear hg1 hg2
        generalize l[j] = p at *
        generalize m[j] = q at *
        clear hjl hjm
        by_cases hpq : p = q
        · have g1 : (p != q) = false := by rw [hpq]; simp
          have HPQ := Lib.hid hpq
          clear hpq
          go_wp2_with fail
          go_quiet (fail)
          go_wp2
          go_roundw
          case rel => exact ⟨j + 1, by omega, by go_num, Ext.drewN' HE.out, fun i' h => by
            rcases Nat.lt_or_ge i' j with h0 | h0
            · exact HS.out i' h0
            · obtain rfl : i' = j := by omega
              rw [HG.out.1, HG.out.2, HPQ.out]⟩
          case measure => simp [intOf]; omega
        · have g1 : (p != q) = true := by rw [bne_iff_ne]; exact hpq
          have HR := Lib.hid (show R = false by
            rw [HD.out, decide_eq_false]
            rintro rfl
            exact hpq (Option.some.inj (HG.out.1.symm.trans HG.out.2)))
          clear hpq
          go_wp2_with fail
          go_quiet (fail)
          go_wp2
          go_ret
          exact ⟨by rw [HR.out]; rfl, Ext.drewN' HE.out⟩
      · have hjl : j = len := by omega
        subst hjl
        have HR := Lib.hid (show R = true by
          rw [HD.out, decide_eq_true]
          apply List.ext_getElem?
          intro i
          by_cases hi : i < j
          · exact HS.out i hi
          · rw [List.getElem?_eq_none (by rw [HL.out]; omega), List.getElem?_eq_none (by rw [HM.out]; omega)])
        go_wp2
        go_ret
        exact ⟨by rw [HR.out]; rfl, HE.out⟩
  · have HR := Lib.hid (show R = false by
      rw [HD.out, decide_eq_false]
      rintro rfl
      exact hn rfl)
    have g0 : ((l.length : Int) != (m.length : Int)) = true := by rw [bne_iff_ne]; omega
    clear hn
    go_enter Tryd.func20, Tryd.ntmps20
    go_wp2
    go_ret
    exact ⟨by rw [HR.out]; rfl, Below.refl _ _⟩
/-- is a history long -/
def grH (n : Nat) : Bool := decide (6 < n ∧ n ≤ 12 ∨ 40 < n)
set_option maxRecDepth 100000 in
theorem great_any (n : Nat) (a : Option Addr) (c : Nat) (w : World) : Gives Tryd.prog 10 #[.slice a n c] w (.bool (grH n)) := by
  unfold Gives
  obtain ⟨R, hR⟩ : ∃ R, grH n = R := ⟨_, rfl⟩
  rw [hR]
  have HR := Lib.hid (show R = decide (6 < n ∧ n ≤ 12 ∨ 40 < n) from hR.symm)
  clear hR
  by_cases h1 : 6 < n
  · have g1 : decide ((6 : Int) < (n : Int)) = true := by simp; omega
    by_cases h2 : n ≤ 12
    · have g2 : decide ((n : Int) ≤ 12) = true := by simp; omega
      have HV := Lib.hid (show R = true by rw [HR.out, decide_eq_true]; omega)
      clear h1 h2
      go_enter Tryd.func10, Tryd.ntmps10
      go_wp2
      go_ret
      exact ⟨by rw [HV.out]; rfl, Below.refl _ _⟩
    · have g2 : decide ((n : Int) ≤ 12) = false := by simp; omega
      by_cases h3 : 40 < n
      · have g3 : decide ((40 : Int) < (n : Int)) = true := by simp; omega
        have HV := Lib.hid (show R = true by rw [HR.out, decide_eq_true]; omega)
        clear h1 h2 h3
        go_enter Tryd.func10, Tryd.ntmps10
        go_wp2
        go_ret
        exact ⟨by rw [HV.out]; rfl, Below.refl _ _⟩
      · have g3 : decide ((40 : Int) < (n : Int)) = false := by simp; omega
        have HV := Lib.hid (show R = false by rw [HR.out, decide_eq_false]; omega)
        clear h1 h2 h3
        go_enter Tryd.func10, Tryd.ntmps10
        go_wp2
        go_ret
        exact ⟨by rw [HV.out]; rfl, Below.refl _ _⟩
  · have g1 : decide ((6 : Int) < (n : Int)) = false := by simp; omega
    have g3 : decide ((40 : Int) < (n : Int)) = false := by simp; omega
    have HV := Lib.hid (show R = false by rw [HR.out, decide_eq_false]; omega)
    clear h1
    go_enter Tryd.func10, Tryd.ntmps10
    go_wp2
    go_ret
    exact ⟨by rw [HV.out]; rfl, Below.refl _ _⟩
end Go.Proofs.YtmbkjccckmlacaaDoor

namespace Go.Proofs.YtmbkjccckmlacaaDoor
open Go.RowKit
set_option linter.unusedVariables false
set_option linter.unusedSimpArgs false

abbrev tOp : TypeId := 48
def cOp (x : Cl) : List Value := [.int .i64 x.task, .int .i64 x.meth, .int .i64 x.arg, .int .i64 x.res, .int .i64 x.beg, .int .i64 x.en]
theorem infoOp : (Tryd.prog.info? 48).map (fun i => (i.zero, i.size, i.bytes)) = some (some (.agg #[.int .i64 0, .int .i64 0, .int .i64 0, .int .i64 0, .int .i64 0, .int .i64 0]), 6, 48) := by kernel_rfl
theorem flatOp_len : ∀ l : List Cl, (l.flatMap cOp).length = l.length * 6
  | [] => rfl
  | x :: l => by rw [List.flatMap_cons, List.length_append, flatOp_len l, List.length_cons]; simp [cOp]; omega
theorem flatOp_get : ∀ (l : List Cl) (i : Nat) (h : i < l.length) (j : Nat), j < 6 → (l.flatMap cOp)[i * 6 + j]? = (cOp l[i])[j]?
  | x :: l, 0, _, j, hj => by
    rw [List.flatMap_cons, Nat.zero_mul, Nat.zero_add, List.getElem?_append_left (by simpa [cOp] using hj)]; rfl
  | x :: l, i + 1, h, j, hj => by
    rw [List.flatMap_cons, List.getElem?_append_right (by simp [cOp]; omega)]
    rw [show (i + 1) * 6 + j - (cOp x).length = i * 6 + j by simp [cOp]; omega]
    exact flatOp_get l i (by simpa using h) j hj
/-- v is a row of operations of the call's own -/
def RowO (base : Nat) (v : Value) (l : List Cl) (w : World) : Prop := w.ownsRow base tOp 6 v l.length (l.flatMap cOp)
theorem RowO.ext {base : Nat} {v : Value} {l : List Cl} {w w' : World} (h : RowO base v l w) (hE : Ext w w') : RowO base v l w' := ownsRow_extI h hE.below
theorem RowO.nil (base : Nat) (w : World) : RowO base (.slice none 0 0) [] w := World.ownsRow_nil _ _ _ _
variable {ops : Array Oper} {rest : List Oper} {o : Oper} {a : Act} {Q : Exit → Act → World → Prop}
theorem wp_appO (hgd : o.guard = none) (s x : Operand) (ho : o.op = .call { callee := .builtin .append, args := #[s, x], argTypes := #[24, 24] })
    (base : Nat) (v : Value) (l : List Cl) (hs : a.eval s = v) (W : World) (h : RowO base v l W) (r : Cl) (g : Nat) (hgs : g = W.heap.size) (hx : a.eval x = .slice (some ⟨g, 0, none⟩) 1 1) (hlen : l.length ≤ 1000000000) (hbase : base ≤ W.heap.size)
    (hK : ∀ v' w', RowO base v' (l ++ [r]) w' → Below base W w' → wpList Tryd.prog ops Q rest (a.put o.dst v') w') : wpList Tryd.prog ops Q (o :: rest) a (W.alloc (cClO r)) := by
  subst hgs
  obtain ⟨i0, hi, hz0, hz1, hz2⟩ := info_parts infoOp
  have hrow : RowO base v l (W.alloc (cClO r)) := h.ext (ext_allocN _ _)
  have hg0 := alloc_here W (cClO r)
  refine wpList_append_own _ hgd s x 24 ho base 48 i0 (.agg #[.int .i64 0, .int .i64 0, .int .i64 0, .int .i64 0, .int .i64 0, .int .i64 0]) 6 48 Tryd.underlying24 hi hz0 hz1 hz2 rfl (by decide) v l.length (l.flatMap cOp) hs hrow ⟨W.heap.size, 0, none⟩ 1 1 (cOp r) hx rfl (fun j u hu => ?_) (fun u hu => ?_) (by unfold maxLen; omega) (by omega) (by simp; omega) ?_
  · have e : (⟨W.heap.size, 0, none⟩ : Addr).add j = ⟨W.heap.size, j, none⟩ := by unfold Addr.add; split <;> simp_all
    rw [e]
    refine cell_of hg0 ?_
    simpa [cOp] using hu
  · simp only [cOp, List.mem_cons, List.not_mem_nil, or_false] at hu
    rcases hu with rfl | rfl | rfl | rfl | rfl | rfl <;> rfl
  · intro v' w' hown hg _
    refine hK v' w' ?_ ?_
    · unfold RowO
      simpa [List.flatMap_append] using hown
    · exact ((Below.refl base W).alloc hbase _).grown hg (by simp; omega) (fun k e => (World.ownsRow.lt hrow k e).1)
end Go.Proofs.YtmbkjccckmlacaaDoor

namespace Go.Proofs.YtmbkjccckmlacaaDoor
open Go.RowKit
set_option linter.unusedVariables false
set_option linter.unusedSimpArgs false

/-- a call, at position p -/
def cutC (p : Int) (x : Cl) : Cl := if p ≤ x.en then { x with en := -1, res := 0 } else x
/-- what had begun at position p -/
def begL (l : List Cl) (p : Int) : List Cl := (l.filter (fun x => decide (x.beg < p))).map (cutC p)
theorem begL_step (l : List Cl) (p : Int) (j : Nat) (h : j < l.length) : begL (l.take (j + 1)) p = begL (l.take j) p ++ (if l[j].beg < p then [cutC p l[j]] else []) := by
  have e : l.take (j + 1) = l.take j ++ [l[j]] := by rw [List.take_add_one, List.getElem?_eq_getElem h]; rfl
  unfold begL
  rw [e, List.filter_append, List.map_append]
  congr 1
  by_cases hb : l[j].beg < p <;> simp [hb]
set_option maxRecDepth 100000 in
set_option maxHeartbeats 2000000 in
theorem beginning_any (l : List Cl) (p : Int) (a : Option Addr) (c : Nat) (w : World) (h : HsAt w a l) (hl : l.length ≤ 1000000) :
    Calls Tryd.prog 13 #[.slice a l.length c, .int .i64 p] w (fun e w' => ∃ v, e = .returned v ∧ RowO w.heap.size v (begL l p) w' ∧ Ext w w') := by
  have HH := Lib.hid (fun W (hW : Ext w W) => h.ext hW)
  obtain ⟨R, hR⟩ : ∃ R, begL l p = R := ⟨_, rfl⟩
  rw [hR]
  have HR := Lib.hid hR.symm
  obtain ⟨len, hlen⟩ : ∃ n, l.length = n := ⟨_, rfl⟩
  have HL := Lib.hid hlen
  rw [hlen] at hl ⊢
  clear h hR hlen
  go_enter Tryd.func13, Tryd.ntmps13
  go_wp2_with fail
  go_loopw [5, 10] (fun vo i wr => ∃ j : Nat, j ≤ len ∧ i = .int .i64 (j : Int) ∧ RowO w.heap.size vo (begL (l.take j) p) wr ∧ Ext w wr) (fun _ i _ => len - (intOf i).toNat)
  case atStart => exact ⟨0, Nat.zero_le _, rfl, RowO.nil _ _, Below.refl _ _⟩
  case round =>
    obtain ⟨j, hj, rfl, hrow, hE⟩ := hrel
    have HRow := Lib.hid hrow
    have HE := Lib.hid hE
    clear hrow hE
    by_cases hlt : j < len
    · have hjl : j < l.length := by rw [HL.out]; exact hlt
      obtain ⟨b, o, rfl, x0, x1, x2, x3, x4, x5⟩ := (HH.out wr HE.out) j hjl
      have hi0 : (0 : Int) ≤ (j : Int) := by omega
      have hi1 : (j : Int) < (len : Int) := by omega
      have HX := Lib.hid (begL_step l p j hjl)
      generalize l[j] = x at *
      obtain ⟨tk, me, ar, re, be, en⟩ := x
      dsimp only at *
      by_cases hbe : p ≤ be
      · have g1 : decide (p ≤ be) = true := by simpa using hbe
        go_wp2_with fail
        have HX2 := Lib.hid (show begL (l.take (j + 1)) p = begL (l.take j) p by rw [HX.out, if_neg (by omega), List.append_nil])
        exact ⟨⟨j + 1, by omega, by go_num, by rw [HX2.out]; exact HRow.out.ext (ext_allocN _ _), Ext.trans HE.out (ext_allocN _ _)⟩, by simp [intOf]; omega⟩
      · have g1 : decide (p ≤ be) = false := by simpa using hbe
        by_cases hen : p ≤ en
        · have g2 : decide (p ≤ en) = true := by simpa using hen
          have HXT := Lib.hid (ext_allocN wr (cClO ⟨tk, me, ar, 0, be, -1⟩))
          have HX2 := Lib.hid (show begL (l.take (j + 1)) p = begL (l.take j) p ++ [⟨tk, me, ar, 0, be, -1⟩] by rw [HX.out, if_pos (by omega)]; simp only [cutC]; rw [if_pos hen])
          have HLN := Lib.hid (show (begL (l.take j) p).length ≤ 1000000000 by unfold begL; rw [List.length_map]; exact Nat.le_trans (List.length_filter_le _ _) (by rw [List.length_take]; omega))
          have HBS := Lib.hid (show w.heap.size ≤ (wr.alloc (cClO ⟨tk, me, ar, 0, be, -1⟩)).heap.size from (Ext.trans HE.out HXT.out).size)
          go_wp2_with (at_builtin; go_loud (refine wp_appO rfl _ _ (by rfl) w.heap.size _ _ (by rfl) _ (HRow.out.ext HXT.out) ⟨tk, me, ar, 0, be, -1⟩ (wr.heap.size + 1) (by simp) (by rfl) HLN.out HBS.out ?_); intro v' w' hr hb; have HRN := Lib.hid hr; have HBN := Lib.hid (show Ext w w' from Below.trans (Ext.trans HE.out HXT.out) hb); clear hr hb)
          go_roundw
          case rel => exact ⟨j + 1, by omega, by go_num, by rw [HX2.out]; exact HRN.out, HBN.out⟩
          case measure => simp [intOf]; omega
        · have g2 : decide (p ≤ en) = false := by simpa using hen
          have HXT := Lib.hid (ext_allocN wr (cClO ⟨tk, me, ar, re, be, en⟩))
          have HX2 := Lib.hid (show begL (l.take (j + 1)) p = begL (l.take j) p ++ [⟨tk, me, ar, re, be, en⟩] by rw [HX.out, if_pos (by omega)]; simp only [cutC]; rw [if_neg hen])
          have HLN := Lib.hid (show (begL (l.take j) p).length ≤ 1000000000 by unfold begL; rw [List.length_map]; exact Nat.le_trans (List.length_filter_le _ _) (by rw [List.length_take]; omega))
          have HBS := Lib.hid (show w.heap.size ≤ (wr.alloc (cClO ⟨tk, me, ar, re, be, en⟩)).heap.size from (Ext.trans HE.out HXT.out).size)
          go_wp2_with (at_builtin; go_loud (refine wp_appO rfl _ _ (by rfl) w.heap.size _ _ (by rfl) _ (HRow.out.ext HXT.out) ⟨tk, me, ar, re, be, en⟩ (wr.heap.size + 1) (by simp) (by rfl) HLN.out HBS.out ?_); intro v' w' hr hb; have HRN := Lib.hid hr; have HBN := Lib.hid (show Ext w w' from Below.trans (Ext.trans HE.out HXT.out) hb); clear hr hb)
          go_roundw
          case rel => exact ⟨j + 1, by omega, by go_num, by rw [HX2.out]; exact HRN.out, HBN.out⟩
          case measure => simp [intOf]; omega
    · have hjl : j = len := by omega
      subst hjl
      go_wp2
      go_ret
      exact ⟨_, rfl, by rw [HR.out, ← List.take_of_length_le (l := l) (i := j) (by rw [HL.out]; exact Nat.le_refl _)]; exact HRow.out, HE.out⟩
end Go.Proofs.YtmbkjccckmlacaaDoor

