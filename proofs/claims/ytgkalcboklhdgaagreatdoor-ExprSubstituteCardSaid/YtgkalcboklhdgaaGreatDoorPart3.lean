/- Lemmas and walks for the statements of this seat, part 3, merged from smaller texts: expr's check: the region that copies the expression.; The reference's size, depth, long; expr's measure, Size.; The reference's depth, long, Great.; The reference's Great; expr's measure, Size.; The reference's parts and Check.; Expressions with the addresses of their arguments; their parts in preorder.; visit and parts: the iterator over the parts of an expression.; parts, and Check. -/
import Derived.RangeFuncNested
import Derived.RangeFuncBound
import Derived.RangeFuncCalls
import Derived.RangeFuncLeaves
import Derived.Shelf.Abstract
import Derived.OwnWalkIn
import Derived.TacticsInMore
import Derived.LoopNIn
import Derived.LoopIn
import Derived.Test.YtgkalcboklhdgaaGreatDoorPart2
import Derived.Test.YtgkalcboklhdgaaGreatDoorPart2
import Derived.Test.YtgkalcboklhdgaaGreatDoorPart1

namespace Go.Proofs.YtgkalcboklhdgaaGreatDoor
open Go.RowKit
set_option linter.unusedVariables false
set_option linter.unusedSimpArgs false

abbrev tEx : TypeId := 24
abbrev tInt : TypeId := 3
def exC (k o : Int) (nm : List UInt8) (v : Int) (p : Option Addr) (m c : Nat) : Array Value := #[.int .i64 k, .int .i64 o, sV nm, .int .i64 v, .slice p m c]
def arC : Array Value := #[.int .i64 0, .int .i64 0, .int .i64 0, .int .i64 1, .int .i64 2]
/-- the values of the region that copies an expression and looks up its arity -/
def ck3 (B : Nat) (k : Nat) (X : Array Value) : Nat → (Nat → Value) → World → Prop
  | 0, s, _ => s 0 = .agg X
  | 1, s, W => ∃ g, s 1 = .slice (some ⟨g, 0, none⟩) 5 5 ∧ W.heap[g]? = some (.cells arC tInt (0, 0))
  | 2, s, _ => s 2 = .pointer (some ⟨B, 0, none⟩)
  | 3, s, _ => s 3 = .int .i64 (k : Int)
  | 4, s, W => ∃ g, s 4 = .pointer (some ⟨g, k, none⟩) ∧ W.heap[g]? = some (.cells arC tInt (0, 0))
  | 5, s, _ => s 5 = .int .i64 (arity (k : Int) : Nat)
  | 6, s, W => ∃ g cc, s 6 = .pointer (some ⟨g, 0, none⟩) ∧ B < g ∧ W.heap[g]? = some (.cells cc tEx (0, 0)) ∧ cc.size = 5
  | 7, s, W => ∃ g cc, s 6 = .pointer (some ⟨g, 0, none⟩) ∧ B < g ∧ W.heap[g]? = some (.cells cc tEx (0, 0)) ∧ cc = X
  | 8, s, _ => s 8 = .int .i64 (arity (k : Int) : Nat)
  | _, _, _ => True
theorem nine {α : Type} (fs : List α) (h : fs.length = 9) : ∃ a b c d e f g i j, fs = [a, b, c, d, e, f, g, i, j] := by
  match fs, h with
  | [a, b, c, d, e, f, g, i, j], _ => exact ⟨a, b, c, d, e, f, g, i, j, rfl⟩
def ck3D : Nat → List Nat := fun j => if j = 7 then [6] else [j]
theorem ck3_st (B k : Nat) (X : Array Value) : ∀ j s s' W W', ck3 B k X j s W → (∀ i ∈ ck3D j, s' i = s i) → Grow (B + 1) tEx (fun c => c = X) W W' → ck3 B k X j s' W' := by
  intro j s s' W W' h hs hG
  match j, h, hs with
  | 0, h, hs => exact (hs 0 (by simp [ck3D])).trans h
  | 1, ⟨g, h1, h2⟩, hs => exact ⟨g, (hs 1 (by simp [ck3D])).trans h1, hG.keep h2 (by intro _ _ e; cases e)⟩
  | 2, h, hs => exact (hs 2 (by simp [ck3D])).trans h
  | 3, h, hs => exact (hs 3 (by simp [ck3D])).trans h
  | 4, ⟨g, h1, h2⟩, hs => exact ⟨g, (hs 4 (by simp [ck3D])).trans h1, hG.keep h2 (by intro _ _ e; cases e)⟩
  | 5, h, hs => exact (hs 5 (by simp [ck3D])).trans h
  | 6, ⟨g, cc, h1, h2, h3, h4⟩, hs =>
    obtain ⟨c', h5, h6⟩ := hG.turn h3
    exact ⟨g, c', (hs 6 (by simp [ck3D])).trans h1, h2, h5, h6.trans h4⟩
  | 7, ⟨g, cc, h1, h2, h3, h4⟩, hs =>
    obtain ⟨c', h5, h6⟩ := hG.done h3 h4
    exact ⟨g, c', (hs 6 (by simp [ck3D])).trans h1, h2, h5, h6⟩
  | 8, h, hs => exact (hs 8 (by simp [ck3D])).trans h
  | n + 9, h, hs => exact trivial

abbrev tOp : TypeId := 86
/-- five values of one cell each -/
def Five (x : Array Value) : Prop := x.size = 5 ∧ x.all (·.oneCell') = true
theorem five_val (e : Entry) (fv : Value) (W : World) (k : Int) (h : FnOk W k fv) : ∃ x, Five x ∧ e.val fv = .agg x := by
  refine ⟨_, ⟨rfl, ?_⟩, rfl⟩
  rcases h with ⟨_, rfl⟩ | ⟨n, g, _, rfl, _⟩ | ⟨n, g, _, rfl, _⟩ | ⟨n, g, h, _, rfl, _⟩ <;> simp [Value.oneCell']
theorem five_zero : ∃ x, Five x ∧ opZero = .agg x := ⟨_, ⟨rfl, by simp [Value.oneCell']⟩, rfl⟩
/-- the values of the region that looks an operator up -/
def ck12 (B Bd : Nat) (o : Int) : Nat → (Nat → Value) → World → Prop
  | 0, s, W => ∃ b, s 0 = .map (some b) ∧ OpsAt W b opL
  | 1, s, _ => s 1 = .pointer (some ⟨B, 1, none⟩)
  | 2, s, _ => s 2 = .int .i64 o
  | 3, s, _ => ∃ x, Five x ∧ s 3 = .tuple #[.agg x, .bool (knownB o)]
  | 4, s, _ => ∃ x, Five x ∧ s 4 = .tuple #[.agg x, .bool (knownB o)]
  | 5, s, _ => ∃ x, Five x ∧ s 5 = .agg x
  | 6, s, _ => s 6 = .bool (knownB o)
  | 7, s, W => ∃ g cc, s 7 = .pointer (some ⟨g, 0, none⟩) ∧ Bd ≤ g ∧ W.heap[g]? = some (.cells cc tOp (0, 0)) ∧ cc.size = 5
  | 9, s, _ => s 9 = .bool (knownB o)
  | _, _, _ => True
theorem ck12_st (B Bd : Nat) (o : Int) : ∀ j s s' W W', ck12 B Bd o j s W → (∀ i ∈ [j], s' i = s i) → Grow Bd tOp (fun _ => True) W W' → ck12 B Bd o j s' W' := by
  intro j s s' W W' h hs hG
  match j, h, hs with
  | 0, ⟨b, h1, h2⟩, hs => exact ⟨b, (hs 0 (by simp)).trans h1, h2.grow hG (by decide) (by decide)⟩
  | 1, h, hs => exact (hs 1 (by simp)).trans h
  | 2, h, hs => exact (hs 2 (by simp)).trans h
  | 3, ⟨x, h1, h2⟩, hs => exact ⟨x, h1, (hs 3 (by simp)).trans h2⟩
  | 4, ⟨x, h1, h2⟩, hs => exact ⟨x, h1, (hs 4 (by simp)).trans h2⟩
  | 5, ⟨x, h1, h2⟩, hs => exact ⟨x, h1, (hs 5 (by simp)).trans h2⟩
  | 6, h, hs => exact (hs 6 (by simp)).trans h
  | 7, ⟨g, cc, h1, h2, h3, h4⟩, hs =>
    obtain ⟨c', h5, h6⟩ := hG.turn h3
    exact ⟨g, c', (hs 7 (by simp)).trans h1, h2, h5, h6.trans h4⟩
  | 8, h, hs => exact trivial
  | 9, h, hs => exact (hs 9 (by simp)).trans h
  | n + 10, h, hs => exact trivial
theorem ten {α : Type} (fs : List α) (h : fs.length = 10) : ∃ a b c d e f g i j k, fs = [a, b, c, d, e, f, g, i, j, k] := by
  match fs, h with
  | [a, b, c, d, e, f, g, i, j, k], _ => exact ⟨a, b, c, d, e, f, g, i, j, k, rfl⟩

set_option maxRecDepth 100000 in
set_option maxHeartbeats 4000000 in
theorem check_k1 (o : Int) (nm : List UInt8) (v : Int) (p : Option Addr) (m c : Nat) (w : World) (hn0 : nm.length ≤ 140737488355328) (hm0 : m ≤ 2199023255488) :
    Gives Tryz.prog 45 #[.agg (exC 1 o nm v p m c)] w (.int .i64 (pc' 1 o nm v m)) := by
  unfold Gives
  show Calls _ _ #[.agg #[.int .i64 1, .int .i64 o, sV nm, .int .i64 v, .slice p m c]] _ _
  go_enter Tryz.func45, Tryz.ntmps45
  go_wp2
  obtain ⟨B, hB⟩ : ∃ B, B = w.heap.size := ⟨_, rfl⟩
  obtain ⟨W0, hW0⟩ : ∃ W, W = w.alloc (.cells (exC 1 o nm v p m c) tEx) := ⟨_, rfl⟩
  have hbox : W0.heap[B]? = some (.cells (exC 1 o nm v p m c) tEx (0, 0)) := by rw [hW0, hB]; exact alloc_here _ _
  have hWs : W0.heap.size = B + 1 := by rw [hW0, hB]; simp
  change Code.wp _ _ _ _ (w.alloc (.cells (exC 1 o nm v p m c) tEx))
  rw [← hW0, ← hB]
  refine wp_region_g (by kernel_rfl) (Grow (B + 1) tEx (fun c' => c' = exC 1 o nm v p m c)) (Grow.drawn _ _ _) Grow.trans (ck3 B 1 (exC 1 o nm v p m c)) ck3D (ck3_st B 1 _) (by kernel_rfl) (by kernel_rfl) (by kernel_rfl) 104 rfl (by kernel_rfl) ?_ ?_
  · intro i op ho a' W hA
    have hb : W.heap[B]? = some (.cells (exC 1 o nm v p m c) tEx (0, 0)) := (hA.rel.low (by omega) (by omega)).trans hbox
    have hlt : B < W.heap.size := lt_of_block hb
    have c0 : W.cell? ⟨B, 0, none⟩ = some (.int .i64 1) := cell_of hb rfl
    have c1 : W.cell? ⟨B, 1, none⟩ = some (.int .i64 o) := cell_of hb rfl
    have c2 : W.cell? ⟨B, 2, none⟩ = some (sV nm) := cell_of hb rfl
    have c3 : W.cell? ⟨B, 3, none⟩ = some (.int .i64 v) := cell_of hb rfl
    have c4 : W.cell? ⟨B, 4, none⟩ = some (.slice p m c) := cell_of hb rfl
    match i, ho with
    | 0, ho =>
      obtain rfl := Option.some.inj ho
      have e1 : a'.eval (.tmp 1) = .pointer (some ⟨B, 0, none⟩) := hA.keep 1 (by kernel_rfl)
      refine GoesG.value (.agg (exC 1 o nm v p m c)) rfl ?_ (Grow.refl _ _ _ _) (fun s h1 h2 => h1 rfl)
      simp only [execOp, e1]
      simp [go_sem, c0, c1, c2, c3, c4, exC]
    | 1, ho =>
      obtain rfl := Option.some.inj ho
      refine GoesG.value (.slice (some ⟨W.heap.size, 0, none⟩) 5 5) (W' := W.alloc (.cells arC tInt)) rfl ?_ (Grow.of_ext ((Below.refl _ W).alloc (Nat.le_refl _) _)) (fun s h1 h2 => ⟨_, h1 rfl, alloc_here _ _⟩)
      simp only [execOp]
      simp [go_sem]
      rfl
    | 2, ho =>
      obtain rfl := Option.some.inj ho
      have e1 : a'.eval (.tmp 1) = .pointer (some ⟨B, 0, none⟩) := hA.keep 1 (by kernel_rfl)
      refine GoesG.value (.pointer (some ⟨B, 0, none⟩)) rfl ?_ (Grow.refl _ _ _ _) (fun s h1 h2 => h1 rfl)
      simp only [execOp, e1]
      simp [go_sem]
    | 3, ho =>
      obtain rfl := Option.some.inj ho
      have e1 : a'.eval (.tmp 17) = .pointer (some ⟨B, 0, none⟩) := (sv_dst (l := _) rfl).symm.trans (hA.new 2 (by decide) (by kernel_rfl))
      refine GoesG.value (.int .i64 1) rfl ?_ (Grow.refl _ _ _ _) (fun s h1 h2 => h1 rfl)
      simp only [execOp, e1]
      simp [go_sem, c0]
    | 4, ho =>
      obtain rfl := Option.some.inj ho
      obtain ⟨g, e0, hg⟩ := hA.new 1 (by decide) (by kernel_rfl)
      have e1 : a'.eval (.tmp 16) = .slice (some ⟨g, 0, none⟩) 5 5 := (sv_dst (l := _) rfl).symm.trans e0
      have e2 : a'.eval (.tmp 18) = .int .i64 1 := (sv_dst (l := _) rfl).symm.trans (hA.new 3 (by decide) (by kernel_rfl))
      refine GoesG.value (.pointer (some ⟨g, 1, none⟩)) rfl ?_ (Grow.refl _ _ _ _) (fun s h1 h2 => ⟨g, h1 rfl, hg⟩)
      simp only [execOp, e1, e2]
      simp [go_sem]
    | 5, ho =>
      obtain rfl := Option.some.inj ho
      obtain ⟨g, e0, hg⟩ := hA.new 4 (by decide) (by kernel_rfl)
      have e1 : a'.eval (.tmp 19) = .pointer (some ⟨g, 1, none⟩) := (sv_dst (l := _) rfl).symm.trans e0
      have d1 : W.cell? ⟨g, 1, none⟩ = some (.int .i64 (arity 1 : Nat)) := cell_of hg rfl
      refine GoesG.value (.int .i64 (arity 1 : Nat)) rfl ?_ (Grow.refl _ _ _ _) (fun s h1 h2 => h1 rfl)
      simp only [execOp, e1]
      simp [go_sem, d1]
    | 6, ho =>
      obtain rfl := Option.some.inj ho
      refine GoesG.value (.pointer (some ⟨W.heap.size, 0, none⟩)) (W' := W.alloc (.cells #[.int .i64 0, .int .i64 0, sV [], .int .i64 0, .slice none 0 0] tEx)) rfl ?_ (Grow.of_ext ((Below.refl _ W).alloc (Nat.le_refl _) _)) (fun s h1 h2 => ⟨_, _, h1 rfl, hlt, alloc_here _ _, rfl⟩)
      simp only [execOp]
      simp [go_sem]
      rfl
    | 7, ho =>
      obtain rfl := Option.some.inj ho
      obtain ⟨g, cc, e0, hB2, hg, hcc⟩ := hA.new 6 (by decide) (by kernel_rfl)
      have e1 : a'.eval (.tmp 3) = .pointer (some ⟨g, 0, none⟩) := (sv_dst (l := _) rfl).symm.trans e0
      have e2 : a'.eval (.tmp 15) = .agg (exC 1 o nm v p m c) := (sv_dst (l := _) rfl).symm.trans (hA.new 0 (by decide) (by kernel_rfl))
      exact GoesG.store rfl tEx (.tmp 3) (.tmp 15) rfl g (exC 1 o nm v p m c) e1 e2 tEx cc hg (by kernel_rfl) hcc (by simp [exC, Value.oneCell']) rfl (Grow.row hg (by omega) hcc.symm rfl)
        (fun s h2 => ⟨g, _, (h2 6 (by decide) (by kernel_rfl)).trans e0, hB2, setRow_heap _ _ _ _ _ _ hg, rfl⟩)
    | 8, ho =>
      obtain rfl := Option.some.inj ho
      have e2 : a'.eval (.tmp 20) = .int .i64 (arity 1 : Nat) := (sv_dst (l := _) rfl).symm.trans (hA.new 5 (by decide) (by kernel_rfl))
      exact GoesG.assign (.tmp 20) rfl rfl (Grow.refl _ _ _ _) (fun s h1 h2 => (h1 rfl).trans e2)
    | i + 9, ho => cases ho
  · intro vs W hvs hG hΦ
    obtain ⟨v0, v1, v2, v3, v4, v5, v6, v7, v8, rfl⟩ := nine vs hvs
    have h8 : v8 = .int .i64 0 := (hΦ 8 (by decide)).trans (by rfl)
    obtain ⟨g, cc, h6, hBg, hg, hcc⟩ : ∃ g cc, v6 = .pointer (some ⟨g, 0, none⟩) ∧ B < g ∧ W.heap[g]? = some (.cells cc tEx (0, 0)) ∧ cc = exC 1 o nm v p m c := hΦ 7 (by decide)
    subst hcc h8 h6
    have hE : Ext W0 W := by rw [← hWs] at hG; exact hG.ext
    have hb : W.heap[B]? = some (.cells (exC 1 o nm v p m c) tEx (0, 0)) := (hE.below.block B (lt_of_block hbox)).trans hbox
    have hwB : Ext w W := by rw [hW0] at hE; exact Ext.trans ((Below.refl _ w).alloc (Nat.le_refl _) _) hE
    clear hΦ hG hE hbox hWs
    simp only [putAll, Act.put, List.setIfInBounds_toArray, List.set_cons_succ, List.set_cons_zero]
    have b0 : W.cell? ⟨B, 0, none⟩ = some (.int .i64 1) := cell_of hb rfl
    have b1 : W.cell? ⟨B, 1, none⟩ = some (.int .i64 o) := cell_of hb rfl
    have b2 : W.cell? ⟨B, 2, none⟩ = some (sV nm) := cell_of hb rfl
    have b3 : W.cell? ⟨B, 3, none⟩ = some (.int .i64 v) := cell_of hb rfl
    have b4 : W.cell? ⟨B, 4, none⟩ = some (.slice p m c) := cell_of hb rfl
    have g1 : W.cell? ⟨g, 1, none⟩ = some (.int .i64 o) := cell_of hg rfl
    have g2 : W.cell? ⟨g, 2, none⟩ = some (sV nm) := cell_of hg rfl
    have g3 : W.cell? ⟨g, 3, none⟩ = some (.int .i64 v) := cell_of hg rfl
    have f1 : ∀ i, W.frozen? ⟨g, i, none⟩ = false := fun i => free_of hg
    have n1 : ¬ B = g := by omega
    have n2 : ¬ g = B := by omega
    have HG := Lib.hid hg
    have HB := Lib.hid hb
    have HW := Lib.hid hwB
    have HL := Lib.hid hBg
    have HS := Lib.hid (fun (off : Nat) (x : Value) => show Ext w (W.setCell ⟨g, off, none⟩ x) from Below.setCell hwB (show w.heap.size ≤ g by omega) x)
    clear hg hb hwB hBg hvs hW0 hB
    clear W0
    by_cases ho : o = 0
    rotate_left
    · have q_o1 : (o == 0) = false := by simp; omega
      have q_o2 : (o != 0) = true := by simp; omega
      have HZ := Lib.hid (show pc' 1 o nm v m = 1 by simp [pc', ho])
      go_wp2
      all_goals (go_ret; exact ⟨by rw [HZ.out]; rfl, HS.out _ _⟩)
    subst ho
    by_cases hn : nm = []
    rotate_left
    · have hn1 : nm.isEmpty = false := by simpa using hn
      have HZ := Lib.hid (show pc' 1 0 nm v m = 1 by simp [pc', hn])
      go_wp2
      all_goals (go_ret; exact ⟨by rw [HZ.out]; rfl, HS.out _ _⟩)
    subst hn
    by_cases hm : m = 0
    rotate_left
    · have q_m1 : ((m : Int) == 0) = false := by simp; omega
      have q_m2 : ((m : Int) != 0) = true := by simp; omega
      have HZ := Lib.hid (show pc' 1 0 [] v m = 1 by simp [pc', arity, hm])
      go_wp2
      all_goals (go_ret; exact ⟨by rw [HZ.out]; rfl, HS.out _ _⟩)
    subst hm
    go_wp2
    obtain ⟨W2, hW2⟩ : ∃ W2, W2 = W.setCell ⟨g, 3, none⟩ (.int .i64 0) := ⟨_, rfl⟩
    have hb2 : W2.heap[B]? = some (.cells (exC 1 0 [] v p 0 c) tEx (0, 0)) := by rw [hW2]; exact (Below.heap_setCell _ _ _ _ n1).trans HB.out
    have hE2 : Ext w W2 := by rw [hW2]; exact HS.out _ _
    rw [← hW2]
    have hlt2 := lt_of_block hb2
    clear b0 b1 b2 b3 b4 g1 g2 g3 f1 hW2
    refine wp_region_g (by kernel_rfl) (Grow W2.heap.size tOp (fun _ => True)) (Grow.drawn _ _ _) Grow.trans (ck12 B W2.heap.size 0) (fun j => [j]) (ck12_st B _ 0) (by kernel_rfl) (by kernel_rfl) (by kernel_rfl) 104 rfl (by kernel_rfl) ?_ ?_
    · intro i op ho a' W hA
      have hb : W.heap[B]? = some (.cells (exC 1 0 [] v p 0 c) tEx (0, 0)) := (hA.rel.low hlt2 hlt2).trans hb2
      have c1 : W.cell? ⟨B, 1, none⟩ = some (.int .i64 0) := cell_of hb rfl
      match i, ho with
      | 0, ho =>
        obtain rfl := Option.some.inj ho
        refine GoesG.call 63 #[] rfl ?_ ((operators_any W).mono ?_)
        · simp [execOp, resolve, invoke, Deferred.ofValue]
          rfl
        · rintro e W1 ⟨b, rfl, hO, hE⟩
          exact ⟨_, rfl, Grow.of_ext hE, fun s h1 h2 => ⟨b, h1 rfl, hO⟩⟩
      | 1, ho =>
        obtain rfl := Option.some.inj ho
        have e1 : a'.eval (.tmp 1) = .pointer (some ⟨B, 0, none⟩) := hA.keep 1 (by kernel_rfl)
        refine GoesG.value (.pointer (some ⟨B, 1, none⟩)) rfl ?_ (Grow.refl _ _ _ _) (fun s h1 h2 => h1 rfl)
        simp only [execOp, e1]
        simp [go_sem]
      | 2, ho =>
        obtain rfl := Option.some.inj ho
        have e1 : a'.eval (.tmp 52) = .pointer (some ⟨B, 1, none⟩) := (sv_dst (l := _) rfl).symm.trans (hA.new 1 (by decide) (by kernel_rfl))
        refine GoesG.value (.int .i64 0) rfl ?_ (Grow.refl _ _ _ _) (fun s h1 h2 => h1 rfl)
        simp only [execOp, e1]
        simp [go_sem, c1]
      | 3, ho =>
        obtain rfl := Option.some.inj ho
        obtain ⟨b, e0, hO⟩ := hA.new 0 (by decide) (by kernel_rfl)
        have e1 : a'.eval (.tmp 51) = .map (some b) := (sv_dst (l := _) rfl).symm.trans e0
        have e2 : a'.eval (.tmp 53) = .int .i64 0 := (sv_dst (l := _) rfl).symm.trans (hA.new 2 (by decide) (by kernel_rfl))
        obtain ⟨x, hx, hrun⟩ : ∃ x, Five x ∧ (Instr.lookup 87 (.map (some b)) (.int .i64 0) true).run Tryz.prog W = .ok (.tuple #[.agg x, .bool (knownB 0)]) W := by
          cases hk : knownB 0 with
          | true =>
            obtain ⟨fv, hf, hr⟩ := ops_yes hO 0 hk
            obtain ⟨x, hx, he⟩ := five_val (opOf 0) fv W 0 hf
            exact ⟨x, hx, by have := hr true; rw [he] at this; simpa using this⟩
          | false =>
            obtain ⟨x, hx, he⟩ := five_zero
            exact ⟨x, hx, by have := ops_no hO 0 hk true; rw [he] at this; simpa using this⟩
        refine GoesG.value _ rfl ?_ (Grow.refl _ _ _ _) (fun s h1 h2 => ⟨x, hx, h1 rfl⟩)
        simp only [execOp, e1, e2, Sem.run_bind, hrun, Result.andThen_ok, Sem.run_pure]
      | 4, ho =>
        obtain rfl := Option.some.inj ho
        obtain ⟨x, hx, e0⟩ := hA.new 3 (by decide) (by kernel_rfl)
        have e1 : a'.eval (.tmp 54) = .tuple #[.agg x, .bool (knownB 0)] := (sv_dst (l := _) rfl).symm.trans e0
        exact GoesG.move (.tmp 54) rfl rfl (Grow.refl _ _ _ _) (fun s h1 h2 => ⟨x, hx, (h1 rfl).trans e1⟩)
      | 5, ho =>
        obtain rfl := Option.some.inj ho
        obtain ⟨x, hx, e0⟩ := hA.new 4 (by decide) (by kernel_rfl)
        have e1 : a'.eval (.tmp 50) = .tuple #[.agg x, .bool (knownB 0)] := (sv_dst (l := _) rfl).symm.trans e0
        refine GoesG.value (.agg x) rfl ?_ (Grow.refl _ _ _ _) (fun s h1 h2 => ⟨x, hx, h1 rfl⟩)
        simp only [execOp, e1]
        simp [go_sem]
      | 6, ho =>
        obtain rfl := Option.some.inj ho
        obtain ⟨x, hx, e0⟩ := hA.new 4 (by decide) (by kernel_rfl)
        have e1 : a'.eval (.tmp 50) = .tuple #[.agg x, .bool (knownB 0)] := (sv_dst (l := _) rfl).symm.trans e0
        refine GoesG.value (.bool (knownB 0)) rfl ?_ (Grow.refl _ _ _ _) (fun s h1 h2 => h1 rfl)
        simp only [execOp, e1]
        simp [go_sem]
      | 7, ho =>
        obtain rfl := Option.some.inj ho
        refine GoesG.value (.pointer (some ⟨W.heap.size, 0, none⟩)) (W' := W.alloc (.cells #[sV [], .int .i64 0, .int .i64 0, .int .i64 0, .nilFunc] tOp)) rfl ?_ (Grow.of_ext ((Below.refl _ W).alloc (Nat.le_refl _) _)) (fun s h1 h2 => ⟨_, _, h1 rfl, hA.rel.size, alloc_here _ _, rfl⟩)
        simp only [execOp]
        simp [go_sem]
        rfl
      | 8, ho =>
        obtain rfl := Option.some.inj ho
        obtain ⟨g, cc, e0, hB2, hg, hcc⟩ := hA.new 7 (by decide) (by kernel_rfl)
        obtain ⟨x, hx, e5⟩ := hA.new 5 (by decide) (by kernel_rfl)
        have e1 : a'.eval (.tmp 5) = .pointer (some ⟨g, 0, none⟩) := (sv_dst (l := _) rfl).symm.trans e0
        have e2 : a'.eval (.tmp 55) = .agg x := (sv_dst (l := _) rfl).symm.trans e5
        exact GoesG.store rfl tOp (.tmp 5) (.tmp 55) rfl g x e1 e2 tOp cc hg (by rw [hx.1]; kernel_rfl) (hcc.trans hx.1.symm) hx.2 rfl (Grow.row hg hB2 (hx.1.trans hcc.symm) trivial)
          (fun s h2 => trivial)
      | 9, ho =>
        obtain rfl := Option.some.inj ho
        have e2 : a'.eval (.tmp 56) = .bool (knownB 0) := (sv_dst (l := _) rfl).symm.trans (hA.new 6 (by decide) (by kernel_rfl))
        exact GoesG.assign (.tmp 56) rfl rfl (Grow.refl _ _ _ _) (fun s h1 h2 => (h1 rfl).trans e2)
      | i + 10, ho => cases ho
    · intro vs W3 hvs hG hΦ
      obtain ⟨u0, u1, u2, u3, u4, u5, u6, u7, u8, u9, rfl⟩ := ten vs hvs
      have h9 : u9 = .bool (knownB 0) := hΦ 9 (by decide)
      subst h9
      have hE3 := Lib.hid (Ext.trans hE2 hG.ext)
      have hb3 : W3.heap[B]? = some (.cells (exC 1 0 [] v p 0 c) tEx (0, 0)) := (hG.low hlt2 hlt2).trans hb2
      have b0 : W3.cell? ⟨B, 0, none⟩ = some (.int .i64 1) := cell_of hb3 rfl
      have b1 : W3.cell? ⟨B, 1, none⟩ = some (.int .i64 0) := cell_of hb3 rfl
      have b2 : W3.cell? ⟨B, 2, none⟩ = some (sV []) := cell_of hb3 rfl
      have b3 : W3.cell? ⟨B, 3, none⟩ = some (.int .i64 v) := cell_of hb3 rfl
      clear hΦ hG hb2 hE2 hlt2 hvs hb3 n1 n2 HL HS HW HB HG
      clear W2 W
      simp only [putAll, Act.put, List.setIfInBounds_toArray, List.set_cons_succ, List.set_cons_zero]
      by_cases hv : v < 0
      · have HZ := Lib.hid (show pc' 1 0 [] v 0 = 2 by simp [pc', arity, hv])
        go_wp2
        go_ret
        exact ⟨by rw [HZ.out]; rfl, hE3.out⟩
      by_cases hv2 : 1099511627776 < v
      · have HZ := Lib.hid (show pc' 1 0 [] v 0 = 2 by simp [pc', arity, hv, hv2])
        go_wp2
        go_ret
        exact ⟨by rw [HZ.out]; rfl, hE3.out⟩
      · have HZ := Lib.hid (show pc' 1 0 [] v 0 = 0 by simp [pc', arity, hv, hv2])
        go_wp2
        go_ret
        exact ⟨by rw [HZ.out]; rfl, hE3.out⟩

set_option maxRecDepth 100000 in
set_option maxHeartbeats 4000000 in
theorem check_k2 (o : Int) (nm : List UInt8) (v : Int) (p : Option Addr) (m c : Nat) (w : World) (hn0 : nm.length ≤ 140737488355328) (hm0 : m ≤ 2199023255488) :
    Gives Tryz.prog 45 #[.agg (exC 2 o nm v p m c)] w (.int .i64 (pc' 2 o nm v m)) := by
  unfold Gives
  show Calls _ _ #[.agg #[.int .i64 2, .int .i64 o, sV nm, .int .i64 v, .slice p m c]] _ _
  go_enter Tryz.func45, Tryz.ntmps45
  go_wp2
  obtain ⟨B, hB⟩ : ∃ B, B = w.heap.size := ⟨_, rfl⟩
  obtain ⟨W0, hW0⟩ : ∃ W, W = w.alloc (.cells (exC 2 o nm v p m c) tEx) := ⟨_, rfl⟩
  have hbox : W0.heap[B]? = some (.cells (exC 2 o nm v p m c) tEx (0, 0)) := by rw [hW0, hB]; exact alloc_here _ _
  have hWs : W0.heap.size = B + 1 := by rw [hW0, hB]; simp
  change Code.wp _ _ _ _ (w.alloc (.cells (exC 2 o nm v p m c) tEx))
  rw [← hW0, ← hB]
  refine wp_region_g (by kernel_rfl) (Grow (B + 1) tEx (fun c' => c' = exC 2 o nm v p m c)) (Grow.drawn _ _ _) Grow.trans (ck3 B 2 (exC 2 o nm v p m c)) ck3D (ck3_st B 2 _) (by kernel_rfl) (by kernel_rfl) (by kernel_rfl) 104 rfl (by kernel_rfl) ?_ ?_
  · intro i op ho a' W hA
    have hb : W.heap[B]? = some (.cells (exC 2 o nm v p m c) tEx (0, 0)) := (hA.rel.low (by omega) (by omega)).trans hbox
    have hlt : B < W.heap.size := lt_of_block hb
    have c0 : W.cell? ⟨B, 0, none⟩ = some (.int .i64 2) := cell_of hb rfl
    have c1 : W.cell? ⟨B, 1, none⟩ = some (.int .i64 o) := cell_of hb rfl
    have c2 : W.cell? ⟨B, 2, none⟩ = some (sV nm) := cell_of hb rfl
    have c3 : W.cell? ⟨B, 3, none⟩ = some (.int .i64 v) := cell_of hb rfl
    have c4 : W.cell? ⟨B, 4, none⟩ = some (.slice p m c) := cell_of hb rfl
    match i, ho with
    | 0, ho =>
      obtain rfl := Option.some.inj ho
      have e1 : a'.eval (.tmp 1) = .pointer (some ⟨B, 0, none⟩) := hA.keep 1 (by kernel_rfl)
      refine GoesG.value (.agg (exC 2 o nm v p m c)) rfl ?_ (Grow.refl _ _ _ _) (fun s h1 h2 => h1 rfl)
      simp only [execOp, e1]
      simp [go_sem, c0, c1, c2, c3, c4, exC]
    | 1, ho =>
      obtain rfl := Option.some.inj ho
      refine GoesG.value (.slice (some ⟨W.heap.size, 0, none⟩) 5 5) (W' := W.alloc (.cells arC tInt)) rfl ?_ (Grow.of_ext ((Below.refl _ W).alloc (Nat.le_refl _) _)) (fun s h1 h2 => ⟨_, h1 rfl, alloc_here _ _⟩)
      simp only [execOp]
      simp [go_sem]
      rfl
    | 2, ho =>
      obtain rfl := Option.some.inj ho
      have e1 : a'.eval (.tmp 1) = .pointer (some ⟨B, 0, none⟩) := hA.keep 1 (by kernel_rfl)
      refine GoesG.value (.pointer (some ⟨B, 0, none⟩)) rfl ?_ (Grow.refl _ _ _ _) (fun s h1 h2 => h1 rfl)
      simp only [execOp, e1]
      simp [go_sem]
    | 3, ho =>
      obtain rfl := Option.some.inj ho
      have e1 : a'.eval (.tmp 17) = .pointer (some ⟨B, 0, none⟩) := (sv_dst (l := _) rfl).symm.trans (hA.new 2 (by decide) (by kernel_rfl))
      refine GoesG.value (.int .i64 2) rfl ?_ (Grow.refl _ _ _ _) (fun s h1 h2 => h1 rfl)
      simp only [execOp, e1]
      simp [go_sem, c0]
    | 4, ho =>
      obtain rfl := Option.some.inj ho
      obtain ⟨g, e0, hg⟩ := hA.new 1 (by decide) (by kernel_rfl)
      have e1 : a'.eval (.tmp 16) = .slice (some ⟨g, 0, none⟩) 5 5 := (sv_dst (l := _) rfl).symm.trans e0
      have e2 : a'.eval (.tmp 18) = .int .i64 2 := (sv_dst (l := _) rfl).symm.trans (hA.new 3 (by decide) (by kernel_rfl))
      refine GoesG.value (.pointer (some ⟨g, 2, none⟩)) rfl ?_ (Grow.refl _ _ _ _) (fun s h1 h2 => ⟨g, h1 rfl, hg⟩)
      simp only [execOp, e1, e2]
      simp [go_sem]
    | 5, ho =>
      obtain rfl := Option.some.inj ho
      obtain ⟨g, e0, hg⟩ := hA.new 4 (by decide) (by kernel_rfl)
      have e1 : a'.eval (.tmp 19) = .pointer (some ⟨g, 2, none⟩) := (sv_dst (l := _) rfl).symm.trans e0
      have d1 : W.cell? ⟨g, 2, none⟩ = some (.int .i64 (arity 2 : Nat)) := cell_of hg rfl
      refine GoesG.value (.int .i64 (arity 2 : Nat)) rfl ?_ (Grow.refl _ _ _ _) (fun s h1 h2 => h1 rfl)
      simp only [execOp, e1]
      simp [go_sem, d1]
    | 6, ho =>
      obtain rfl := Option.some.inj ho
      refine GoesG.value (.pointer (some ⟨W.heap.size, 0, none⟩)) (W' := W.alloc (.cells #[.int .i64 0, .int .i64 0, sV [], .int .i64 0, .slice none 0 0] tEx)) rfl ?_ (Grow.of_ext ((Below.refl _ W).alloc (Nat.le_refl _) _)) (fun s h1 h2 => ⟨_, _, h1 rfl, hlt, alloc_here _ _, rfl⟩)
      simp only [execOp]
      simp [go_sem]
      rfl
    | 7, ho =>
      obtain rfl := Option.some.inj ho
      obtain ⟨g, cc, e0, hB2, hg, hcc⟩ := hA.new 6 (by decide) (by kernel_rfl)
      have e1 : a'.eval (.tmp 3) = .pointer (some ⟨g, 0, none⟩) := (sv_dst (l := _) rfl).symm.trans e0
      have e2 : a'.eval (.tmp 15) = .agg (exC 2 o nm v p m c) := (sv_dst (l := _) rfl).symm.trans (hA.new 0 (by decide) (by kernel_rfl))
      exact GoesG.store rfl tEx (.tmp 3) (.tmp 15) rfl g (exC 2 o nm v p m c) e1 e2 tEx cc hg (by kernel_rfl) hcc (by simp [exC, Value.oneCell']) rfl (Grow.row hg (by omega) hcc.symm rfl)
        (fun s h2 => ⟨g, _, (h2 6 (by decide) (by kernel_rfl)).trans e0, hB2, setRow_heap _ _ _ _ _ _ hg, rfl⟩)
    | 8, ho =>
      obtain rfl := Option.some.inj ho
      have e2 : a'.eval (.tmp 20) = .int .i64 (arity 2 : Nat) := (sv_dst (l := _) rfl).symm.trans (hA.new 5 (by decide) (by kernel_rfl))
      exact GoesG.assign (.tmp 20) rfl rfl (Grow.refl _ _ _ _) (fun s h1 h2 => (h1 rfl).trans e2)
    | i + 9, ho => cases ho
  · intro vs W hvs hG hΦ
    obtain ⟨v0, v1, v2, v3, v4, v5, v6, v7, v8, rfl⟩ := nine vs hvs
    have h8 : v8 = .int .i64 0 := (hΦ 8 (by decide)).trans (by rfl)
    obtain ⟨g, cc, h6, hBg, hg, hcc⟩ : ∃ g cc, v6 = .pointer (some ⟨g, 0, none⟩) ∧ B < g ∧ W.heap[g]? = some (.cells cc tEx (0, 0)) ∧ cc = exC 2 o nm v p m c := hΦ 7 (by decide)
    subst hcc h8 h6
    have hE : Ext W0 W := by rw [← hWs] at hG; exact hG.ext
    have hb : W.heap[B]? = some (.cells (exC 2 o nm v p m c) tEx (0, 0)) := (hE.below.block B (lt_of_block hbox)).trans hbox
    have hwB : Ext w W := by rw [hW0] at hE; exact Ext.trans ((Below.refl _ w).alloc (Nat.le_refl _) _) hE
    clear hΦ hG hE hbox hWs
    simp only [putAll, Act.put, List.setIfInBounds_toArray, List.set_cons_succ, List.set_cons_zero]
    have b0 : W.cell? ⟨B, 0, none⟩ = some (.int .i64 2) := cell_of hb rfl
    have b1 : W.cell? ⟨B, 1, none⟩ = some (.int .i64 o) := cell_of hb rfl
    have b2 : W.cell? ⟨B, 2, none⟩ = some (sV nm) := cell_of hb rfl
    have b3 : W.cell? ⟨B, 3, none⟩ = some (.int .i64 v) := cell_of hb rfl
    have b4 : W.cell? ⟨B, 4, none⟩ = some (.slice p m c) := cell_of hb rfl
    have g1 : W.cell? ⟨g, 1, none⟩ = some (.int .i64 o) := cell_of hg rfl
    have g2 : W.cell? ⟨g, 2, none⟩ = some (sV nm) := cell_of hg rfl
    have g3 : W.cell? ⟨g, 3, none⟩ = some (.int .i64 v) := cell_of hg rfl
    have f1 : ∀ i, W.frozen? ⟨g, i, none⟩ = false := fun i => free_of hg
    have n1 : ¬ B = g := by omega
    have n2 : ¬ g = B := by omega
    have HG := Lib.hid hg
    have HB := Lib.hid hb
    have HW := Lib.hid hwB
    have HL := Lib.hid hBg
    have HS := Lib.hid (fun (off : Nat) (x : Value) => show Ext w (W.setCell ⟨g, off, none⟩ x) from Below.setCell hwB (show w.heap.size ≤ g by omega) x)
    clear hg hb hwB hBg hvs hW0 hB
    clear W0
    by_cases ho : o = 0
    rotate_left
    · have q_o1 : (o == 0) = false := by simp; omega
      have q_o2 : (o != 0) = true := by simp; omega
      have HZ := Lib.hid (show pc' 2 o nm v m = 1 by simp [pc', ho])
      go_wp2
      all_goals (go_ret; exact ⟨by rw [HZ.out]; rfl, HS.out _ _⟩)
    subst ho
    by_cases hv : v = 0
    rotate_left
    · have q_v1 : (v == 0) = false := by simp; omega
      have q_v2 : (v != 0) = true := by simp; omega
      have HZ := Lib.hid (show pc' 2 0 nm v m = 1 by simp [pc', hv])
      go_wp2
      all_goals (go_ret; exact ⟨by rw [HZ.out]; rfl, HS.out _ _⟩)
    subst hv
    by_cases hm : m = 0
    rotate_left
    · have q_m1 : ((m : Int) == 0) = false := by simp; omega
      have q_m2 : ((m : Int) != 0) = true := by simp; omega
      have HZ := Lib.hid (show pc' 2 0 nm 0 m = 1 by simp [pc', arity, hm])
      go_wp2
      all_goals (go_ret; exact ⟨by rw [HZ.out]; rfl, HS.out _ _⟩)
    subst hm
    go_wp2
    obtain ⟨W2, hW2⟩ : ∃ W2, W2 = W.setCell ⟨g, 2, none⟩ (.string { data := #[] }) := ⟨_, rfl⟩
    have hb2 : W2.heap[B]? = some (.cells (exC 2 0 nm 0 p 0 c) tEx (0, 0)) := by rw [hW2]; exact (Below.heap_setCell _ _ _ _ n1).trans HB.out
    have hE2 : Ext w W2 := by rw [hW2]; exact HS.out _ _
    rw [← hW2]
    have hlt2 := lt_of_block hb2
    clear b0 b1 b2 b3 b4 g1 g2 g3 f1 hW2
    refine wp_region_g (by kernel_rfl) (Grow W2.heap.size tOp (fun _ => True)) (Grow.drawn _ _ _) Grow.trans (ck12 B W2.heap.size 0) (fun j => [j]) (ck12_st B _ 0) (by kernel_rfl) (by kernel_rfl) (by kernel_rfl) 104 rfl (by kernel_rfl) ?_ ?_
    · intro i op ho a' W hA
      have hb : W.heap[B]? = some (.cells (exC 2 0 nm 0 p 0 c) tEx (0, 0)) := (hA.rel.low hlt2 hlt2).trans hb2
      have c1 : W.cell? ⟨B, 1, none⟩ = some (.int .i64 0) := cell_of hb rfl
      match i, ho with
      | 0, ho =>
        obtain rfl := Option.some.inj ho
        refine GoesG.call 63 #[] rfl ?_ ((operators_any W).mono ?_)
        · simp [execOp, resolve, invoke, Deferred.ofValue]
          rfl
        · rintro e W1 ⟨b, rfl, hO, hE⟩
          exact ⟨_, rfl, Grow.of_ext hE, fun s h1 h2 => ⟨b, h1 rfl, hO⟩⟩
      | 1, ho =>
        obtain rfl := Option.some.inj ho
        have e1 : a'.eval (.tmp 1) = .pointer (some ⟨B, 0, none⟩) := hA.keep 1 (by kernel_rfl)
        refine GoesG.value (.pointer (some ⟨B, 1, none⟩)) rfl ?_ (Grow.refl _ _ _ _) (fun s h1 h2 => h1 rfl)
        simp only [execOp, e1]
        simp [go_sem]
      | 2, ho =>
        obtain rfl := Option.some.inj ho
        have e1 : a'.eval (.tmp 52) = .pointer (some ⟨B, 1, none⟩) := (sv_dst (l := _) rfl).symm.trans (hA.new 1 (by decide) (by kernel_rfl))
        refine GoesG.value (.int .i64 0) rfl ?_ (Grow.refl _ _ _ _) (fun s h1 h2 => h1 rfl)
        simp only [execOp, e1]
        simp [go_sem, c1]
      | 3, ho =>
        obtain rfl := Option.some.inj ho
        obtain ⟨b, e0, hO⟩ := hA.new 0 (by decide) (by kernel_rfl)
        have e1 : a'.eval (.tmp 51) = .map (some b) := (sv_dst (l := _) rfl).symm.trans e0
        have e2 : a'.eval (.tmp 53) = .int .i64 0 := (sv_dst (l := _) rfl).symm.trans (hA.new 2 (by decide) (by kernel_rfl))
        obtain ⟨x, hx, hrun⟩ : ∃ x, Five x ∧ (Instr.lookup 87 (.map (some b)) (.int .i64 0) true).run Tryz.prog W = .ok (.tuple #[.agg x, .bool (knownB 0)]) W := by
          cases hk : knownB 0 with
          | true =>
            obtain ⟨fv, hf, hr⟩ := ops_yes hO 0 hk
            obtain ⟨x, hx, he⟩ := five_val (opOf 0) fv W 0 hf
            exact ⟨x, hx, by have := hr true; rw [he] at this; simpa using this⟩
          | false =>
            obtain ⟨x, hx, he⟩ := five_zero
            exact ⟨x, hx, by have := ops_no hO 0 hk true; rw [he] at this; simpa using this⟩
        refine GoesG.value _ rfl ?_ (Grow.refl _ _ _ _) (fun s h1 h2 => ⟨x, hx, h1 rfl⟩)
        simp only [execOp, e1, e2, Sem.run_bind, hrun, Result.andThen_ok, Sem.run_pure]
      | 4, ho =>
        obtain rfl := Option.some.inj ho
        obtain ⟨x, hx, e0⟩ := hA.new 3 (by decide) (by kernel_rfl)
        have e1 : a'.eval (.tmp 54) = .tuple #[.agg x, .bool (knownB 0)] := (sv_dst (l := _) rfl).symm.trans e0
        exact GoesG.move (.tmp 54) rfl rfl (Grow.refl _ _ _ _) (fun s h1 h2 => ⟨x, hx, (h1 rfl).trans e1⟩)
      | 5, ho =>
        obtain rfl := Option.some.inj ho
        obtain ⟨x, hx, e0⟩ := hA.new 4 (by decide) (by kernel_rfl)
        have e1 : a'.eval (.tmp 50) = .tuple #[.agg x, .bool (knownB 0)] := (sv_dst (l := _) rfl).symm.trans e0
        refine GoesG.value (.agg x) rfl ?_ (Grow.refl _ _ _ _) (fun s h1 h2 => ⟨x, hx, h1 rfl⟩)
        simp only [execOp, e1]
        simp [go_sem]
      | 6, ho =>
        obtain rfl := Option.some.inj ho
        obtain ⟨x, hx, e0⟩ := hA.new 4 (by decide) (by kernel_rfl)
        have e1 : a'.eval (.tmp 50) = .tuple #[.agg x, .bool (knownB 0)] := (sv_dst (l := _) rfl).symm.trans e0
        refine GoesG.value (.bool (knownB 0)) rfl ?_ (Grow.refl _ _ _ _) (fun s h1 h2 => h1 rfl)
        simp only [execOp, e1]
        simp [go_sem]
      | 7, ho =>
        obtain rfl := Option.some.inj ho
        refine GoesG.value (.pointer (some ⟨W.heap.size, 0, none⟩)) (W' := W.alloc (.cells #[sV [], .int .i64 0, .int .i64 0, .int .i64 0, .nilFunc] tOp)) rfl ?_ (Grow.of_ext ((Below.refl _ W).alloc (Nat.le_refl _) _)) (fun s h1 h2 => ⟨_, _, h1 rfl, hA.rel.size, alloc_here _ _, rfl⟩)
        simp only [execOp]
        simp [go_sem]
        rfl
      | 8, ho =>
        obtain rfl := Option.some.inj ho
        obtain ⟨g, cc, e0, hB2, hg, hcc⟩ := hA.new 7 (by decide) (by kernel_rfl)
        obtain ⟨x, hx, e5⟩ := hA.new 5 (by decide) (by kernel_rfl)
        have e1 : a'.eval (.tmp 5) = .pointer (some ⟨g, 0, none⟩) := (sv_dst (l := _) rfl).symm.trans e0
        have e2 : a'.eval (.tmp 55) = .agg x := (sv_dst (l := _) rfl).symm.trans e5
        exact GoesG.store rfl tOp (.tmp 5) (.tmp 55) rfl g x e1 e2 tOp cc hg (by rw [hx.1]; kernel_rfl) (hcc.trans hx.1.symm) hx.2 rfl (Grow.row hg hB2 (hx.1.trans hcc.symm) trivial)
          (fun s h2 => trivial)
      | 9, ho =>
        obtain rfl := Option.some.inj ho
        have e2 : a'.eval (.tmp 56) = .bool (knownB 0) := (sv_dst (l := _) rfl).symm.trans (hA.new 6 (by decide) (by kernel_rfl))
        exact GoesG.assign (.tmp 56) rfl rfl (Grow.refl _ _ _ _) (fun s h1 h2 => (h1 rfl).trans e2)
      | i + 10, ho => cases ho
    · intro vs W3 hvs hG hΦ
      obtain ⟨u0, u1, u2, u3, u4, u5, u6, u7, u8, u9, rfl⟩ := ten vs hvs
      have h9 : u9 = .bool (knownB 0) := hΦ 9 (by decide)
      subst h9
      have hE3 := Lib.hid (Ext.trans hE2 hG.ext)
      have hb3 : W3.heap[B]? = some (.cells (exC 2 0 nm 0 p 0 c) tEx (0, 0)) := (hG.low hlt2 hlt2).trans hb2
      have b0 : W3.cell? ⟨B, 0, none⟩ = some (.int .i64 2) := cell_of hb3 rfl
      have b1 : W3.cell? ⟨B, 1, none⟩ = some (.int .i64 0) := cell_of hb3 rfl
      have b2 : W3.cell? ⟨B, 2, none⟩ = some (sV nm) := cell_of hb3 rfl
      have b3 : W3.cell? ⟨B, 3, none⟩ = some (.int .i64 0) := cell_of hb3 rfl
      clear hΦ hG hb2 hE2 hlt2 hvs hb3 n1 n2 HL HS HW HB HG
      clear W2 W
      simp only [putAll, Act.put, List.setIfInBounds_toArray, List.set_cons_succ, List.set_cons_zero]
      have IN := Lib.hid (fun W => isName_any nm W hn0)
      cases hq : isNm nm
      · rw [hq] at IN
        have HZ := Lib.hid (show pc' 2 0 nm 0 0 = 5 by simp [pc', arity, hq])
        go_wp2_with fail
        refine (IN.out _).mono ?_
        intro w5 hB5
        have b0' := (hB5.cell (p := ⟨B, 0, none⟩) (Ex.cell_lt' b0)).trans b0
        go_wp2
        go_ret
        exact ⟨by rw [HZ.out]; rfl, Ext.trans hE3.out hB5⟩
      · rw [hq] at IN
        have HZ := Lib.hid (show pc' 2 0 nm 0 0 = 0 by simp [pc', arity, hq])
        go_wp2_with fail
        refine (IN.out _).mono ?_
        intro w5 hB5
        have b0' := (hB5.cell (p := ⟨B, 0, none⟩) (Ex.cell_lt' b0)).trans b0
        go_wp2
        go_ret
        exact ⟨by rw [HZ.out]; rfl, Ext.trans hE3.out hB5⟩

set_option maxRecDepth 100000 in
set_option maxHeartbeats 4000000 in
theorem check_k3 (o : Int) (nm : List UInt8) (v : Int) (p : Option Addr) (m c : Nat) (w : World) (hn0 : nm.length ≤ 140737488355328) (hm0 : m ≤ 2199023255488) :
    Gives Tryz.prog 45 #[.agg (exC 3 o nm v p m c)] w (.int .i64 (pc' 3 o nm v m)) := by
  unfold Gives
  show Calls _ _ #[.agg #[.int .i64 3, .int .i64 o, sV nm, .int .i64 v, .slice p m c]] _ _
  go_enter Tryz.func45, Tryz.ntmps45
  go_wp2
  obtain ⟨B, hB⟩ : ∃ B, B = w.heap.size := ⟨_, rfl⟩
  obtain ⟨W0, hW0⟩ : ∃ W, W = w.alloc (.cells (exC 3 o nm v p m c) tEx) := ⟨_, rfl⟩
  have hbox : W0.heap[B]? = some (.cells (exC 3 o nm v p m c) tEx (0, 0)) := by rw [hW0, hB]; exact alloc_here _ _
  have hWs : W0.heap.size = B + 1 := by rw [hW0, hB]; simp
  change Code.wp _ _ _ _ (w.alloc (.cells (exC 3 o nm v p m c) tEx))
  rw [← hW0, ← hB]
  refine wp_region_g (by kernel_rfl) (Grow (B + 1) tEx (fun c' => c' = exC 3 o nm v p m c)) (Grow.drawn _ _ _) Grow.trans (ck3 B 3 (exC 3 o nm v p m c)) ck3D (ck3_st B 3 _) (by kernel_rfl) (by kernel_rfl) (by kernel_rfl) 104 rfl (by kernel_rfl) ?_ ?_
  · intro i op ho a' W hA
    have hb : W.heap[B]? = some (.cells (exC 3 o nm v p m c) tEx (0, 0)) := (hA.rel.low (by omega) (by omega)).trans hbox
    have hlt : B < W.heap.size := lt_of_block hb
    have c0 : W.cell? ⟨B, 0, none⟩ = some (.int .i64 3) := cell_of hb rfl
    have c1 : W.cell? ⟨B, 1, none⟩ = some (.int .i64 o) := cell_of hb rfl
    have c2 : W.cell? ⟨B, 2, none⟩ = some (sV nm) := cell_of hb rfl
    have c3 : W.cell? ⟨B, 3, none⟩ = some (.int .i64 v) := cell_of hb rfl
    have c4 : W.cell? ⟨B, 4, none⟩ = some (.slice p m c) := cell_of hb rfl
    match i, ho with
    | 0, ho =>
      obtain rfl := Option.some.inj ho
      have e1 : a'.eval (.tmp 1) = .pointer (some ⟨B, 0, none⟩) := hA.keep 1 (by kernel_rfl)
      refine GoesG.value (.agg (exC 3 o nm v p m c)) rfl ?_ (Grow.refl _ _ _ _) (fun s h1 h2 => h1 rfl)
      simp only [execOp, e1]
      simp [go_sem, c0, c1, c2, c3, c4, exC]
    | 1, ho =>
      obtain rfl := Option.some.inj ho
      refine GoesG.value (.slice (some ⟨W.heap.size, 0, none⟩) 5 5) (W' := W.alloc (.cells arC tInt)) rfl ?_ (Grow.of_ext ((Below.refl _ W).alloc (Nat.le_refl _) _)) (fun s h1 h2 => ⟨_, h1 rfl, alloc_here _ _⟩)
      simp only [execOp]
      simp [go_sem]
      rfl
    | 2, ho =>
      obtain rfl := Option.some.inj ho
      have e1 : a'.eval (.tmp 1) = .pointer (some ⟨B, 0, none⟩) := hA.keep 1 (by kernel_rfl)
      refine GoesG.value (.pointer (some ⟨B, 0, none⟩)) rfl ?_ (Grow.refl _ _ _ _) (fun s h1 h2 => h1 rfl)
      simp only [execOp, e1]
      simp [go_sem]
    | 3, ho =>
      obtain rfl := Option.some.inj ho
      have e1 : a'.eval (.tmp 17) = .pointer (some ⟨B, 0, none⟩) := (sv_dst (l := _) rfl).symm.trans (hA.new 2 (by decide) (by kernel_rfl))
      refine GoesG.value (.int .i64 3) rfl ?_ (Grow.refl _ _ _ _) (fun s h1 h2 => h1 rfl)
      simp only [execOp, e1]
      simp [go_sem, c0]
    | 4, ho =>
      obtain rfl := Option.some.inj ho
      obtain ⟨g, e0, hg⟩ := hA.new 1 (by decide) (by kernel_rfl)
      have e1 : a'.eval (.tmp 16) = .slice (some ⟨g, 0, none⟩) 5 5 := (sv_dst (l := _) rfl).symm.trans e0
      have e2 : a'.eval (.tmp 18) = .int .i64 3 := (sv_dst (l := _) rfl).symm.trans (hA.new 3 (by decide) (by kernel_rfl))
      refine GoesG.value (.pointer (some ⟨g, 3, none⟩)) rfl ?_ (Grow.refl _ _ _ _) (fun s h1 h2 => ⟨g, h1 rfl, hg⟩)
      simp only [execOp, e1, e2]
      simp [go_sem]
    | 5, ho =>
      obtain rfl := Option.some.inj ho
      obtain ⟨g, e0, hg⟩ := hA.new 4 (by decide) (by kernel_rfl)
      have e1 : a'.eval (.tmp 19) = .pointer (some ⟨g, 3, none⟩) := (sv_dst (l := _) rfl).symm.trans e0
      have d1 : W.cell? ⟨g, 3, none⟩ = some (.int .i64 (arity 3 : Nat)) := cell_of hg rfl
      refine GoesG.value (.int .i64 (arity 3 : Nat)) rfl ?_ (Grow.refl _ _ _ _) (fun s h1 h2 => h1 rfl)
      simp only [execOp, e1]
      simp [go_sem, d1]
    | 6, ho =>
      obtain rfl := Option.some.inj ho
      refine GoesG.value (.pointer (some ⟨W.heap.size, 0, none⟩)) (W' := W.alloc (.cells #[.int .i64 0, .int .i64 0, sV [], .int .i64 0, .slice none 0 0] tEx)) rfl ?_ (Grow.of_ext ((Below.refl _ W).alloc (Nat.le_refl _) _)) (fun s h1 h2 => ⟨_, _, h1 rfl, hlt, alloc_here _ _, rfl⟩)
      simp only [execOp]
      simp [go_sem]
      rfl
    | 7, ho =>
      obtain rfl := Option.some.inj ho
      obtain ⟨g, cc, e0, hB2, hg, hcc⟩ := hA.new 6 (by decide) (by kernel_rfl)
      have e1 : a'.eval (.tmp 3) = .pointer (some ⟨g, 0, none⟩) := (sv_dst (l := _) rfl).symm.trans e0
      have e2 : a'.eval (.tmp 15) = .agg (exC 3 o nm v p m c) := (sv_dst (l := _) rfl).symm.trans (hA.new 0 (by decide) (by kernel_rfl))
      exact GoesG.store rfl tEx (.tmp 3) (.tmp 15) rfl g (exC 3 o nm v p m c) e1 e2 tEx cc hg (by kernel_rfl) hcc (by simp [exC, Value.oneCell']) rfl (Grow.row hg (by omega) hcc.symm rfl)
        (fun s h2 => ⟨g, _, (h2 6 (by decide) (by kernel_rfl)).trans e0, hB2, setRow_heap _ _ _ _ _ _ hg, rfl⟩)
    | 8, ho =>
      obtain rfl := Option.some.inj ho
      have e2 : a'.eval (.tmp 20) = .int .i64 (arity 3 : Nat) := (sv_dst (l := _) rfl).symm.trans (hA.new 5 (by decide) (by kernel_rfl))
      exact GoesG.assign (.tmp 20) rfl rfl (Grow.refl _ _ _ _) (fun s h1 h2 => (h1 rfl).trans e2)
    | i + 9, ho => cases ho
  · intro vs W hvs hG hΦ
    obtain ⟨v0, v1, v2, v3, v4, v5, v6, v7, v8, rfl⟩ := nine vs hvs
    have h8 : v8 = .int .i64 1 := (hΦ 8 (by decide)).trans (by rfl)
    obtain ⟨g, cc, h6, hBg, hg, hcc⟩ : ∃ g cc, v6 = .pointer (some ⟨g, 0, none⟩) ∧ B < g ∧ W.heap[g]? = some (.cells cc tEx (0, 0)) ∧ cc = exC 3 o nm v p m c := hΦ 7 (by decide)
    subst hcc h8 h6
    have hE : Ext W0 W := by rw [← hWs] at hG; exact hG.ext
    have hb : W.heap[B]? = some (.cells (exC 3 o nm v p m c) tEx (0, 0)) := (hE.below.block B (lt_of_block hbox)).trans hbox
    have hwB : Ext w W := by rw [hW0] at hE; exact Ext.trans ((Below.refl _ w).alloc (Nat.le_refl _) _) hE
    clear hΦ hG hE hbox hWs
    simp only [putAll, Act.put, List.setIfInBounds_toArray, List.set_cons_succ, List.set_cons_zero]
    have b0 : W.cell? ⟨B, 0, none⟩ = some (.int .i64 3) := cell_of hb rfl
    have b1 : W.cell? ⟨B, 1, none⟩ = some (.int .i64 o) := cell_of hb rfl
    have b2 : W.cell? ⟨B, 2, none⟩ = some (sV nm) := cell_of hb rfl
    have b3 : W.cell? ⟨B, 3, none⟩ = some (.int .i64 v) := cell_of hb rfl
    have b4 : W.cell? ⟨B, 4, none⟩ = some (.slice p m c) := cell_of hb rfl
    have g1 : W.cell? ⟨g, 1, none⟩ = some (.int .i64 o) := cell_of hg rfl
    have g2 : W.cell? ⟨g, 2, none⟩ = some (sV nm) := cell_of hg rfl
    have g3 : W.cell? ⟨g, 3, none⟩ = some (.int .i64 v) := cell_of hg rfl
    have f1 : ∀ i, W.frozen? ⟨g, i, none⟩ = false := fun i => free_of hg
    have n1 : ¬ B = g := by omega
    have n2 : ¬ g = B := by omega
    have HG := Lib.hid hg
    have HB := Lib.hid hb
    have HW := Lib.hid hwB
    have HL := Lib.hid hBg
    have HS := Lib.hid (fun (off : Nat) (x : Value) => show Ext w (W.setCell ⟨g, off, none⟩ x) from Below.setCell hwB (show w.heap.size ≤ g by omega) x)
    clear hg hb hwB hBg hvs hW0 hB
    clear W0
    by_cases hn : nm = []
    rotate_left
    · have hn1 : nm.isEmpty = false := by simpa using hn
      have HZ := Lib.hid (show pc' 3 o nm v m = 1 by simp [pc', hn])
      go_wp2
      all_goals (go_ret; exact ⟨by rw [HZ.out]; rfl, HS.out _ _⟩)
    subst hn
    by_cases hv : v = 0
    rotate_left
    · have q_v1 : (v == 0) = false := by simp; omega
      have q_v2 : (v != 0) = true := by simp; omega
      have HZ := Lib.hid (show pc' 3 o [] v m = 1 by simp [pc', hv])
      go_wp2
      all_goals (go_ret; exact ⟨by rw [HZ.out]; rfl, HS.out _ _⟩)
    subst hv
    by_cases hm : m = 1
    rotate_left
    · have q_m1 : ((m : Int) == 1) = false := by simp; omega
      have q_m2 : ((m : Int) != 1) = true := by simp; omega
      have HZ := Lib.hid (show pc' 3 o [] 0 m = 1 by simp [pc', arity, hm])
      go_wp2
      all_goals (go_ret; exact ⟨by rw [HZ.out]; rfl, HS.out _ _⟩)
    subst hm
    go_wp2
    obtain ⟨W2, hW2⟩ : ∃ W2, W2 = W.setCell ⟨g, 1, none⟩ (.int .i64 0) := ⟨_, rfl⟩
    have hb2 : W2.heap[B]? = some (.cells (exC 3 o [] 0 p 1 c) tEx (0, 0)) := by rw [hW2]; exact (Below.heap_setCell _ _ _ _ n1).trans HB.out
    have hE2 : Ext w W2 := by rw [hW2]; exact HS.out _ _
    rw [← hW2]
    have hlt2 := lt_of_block hb2
    clear b0 b1 b2 b3 b4 g1 g2 g3 f1 hW2
    refine wp_region_g (by kernel_rfl) (Grow W2.heap.size tOp (fun _ => True)) (Grow.drawn _ _ _) Grow.trans (ck12 B W2.heap.size o) (fun j => [j]) (ck12_st B _ o) (by kernel_rfl) (by kernel_rfl) (by kernel_rfl) 104 rfl (by kernel_rfl) ?_ ?_
    · intro i op ho a' W hA
      have hb : W.heap[B]? = some (.cells (exC 3 o [] 0 p 1 c) tEx (0, 0)) := (hA.rel.low hlt2 hlt2).trans hb2
      have c1 : W.cell? ⟨B, 1, none⟩ = some (.int .i64 o) := cell_of hb rfl
      match i, ho with
      | 0, ho =>
        obtain rfl := Option.some.inj ho
        refine GoesG.call 63 #[] rfl ?_ ((operators_any W).mono ?_)
        · simp [execOp, resolve, invoke, Deferred.ofValue]
          rfl
        · rintro e W1 ⟨b, rfl, hO, hE⟩
          exact ⟨_, rfl, Grow.of_ext hE, fun s h1 h2 => ⟨b, h1 rfl, hO⟩⟩
      | 1, ho =>
        obtain rfl := Option.some.inj ho
        have e1 : a'.eval (.tmp 1) = .pointer (some ⟨B, 0, none⟩) := hA.keep 1 (by kernel_rfl)
        refine GoesG.value (.pointer (some ⟨B, 1, none⟩)) rfl ?_ (Grow.refl _ _ _ _) (fun s h1 h2 => h1 rfl)
        simp only [execOp, e1]
        simp [go_sem]
      | 2, ho =>
        obtain rfl := Option.some.inj ho
        have e1 : a'.eval (.tmp 52) = .pointer (some ⟨B, 1, none⟩) := (sv_dst (l := _) rfl).symm.trans (hA.new 1 (by decide) (by kernel_rfl))
        refine GoesG.value (.int .i64 o) rfl ?_ (Grow.refl _ _ _ _) (fun s h1 h2 => h1 rfl)
        simp only [execOp, e1]
        simp [go_sem, c1]
      | 3, ho =>
        obtain rfl := Option.some.inj ho
        obtain ⟨b, e0, hO⟩ := hA.new 0 (by decide) (by kernel_rfl)
        have e1 : a'.eval (.tmp 51) = .map (some b) := (sv_dst (l := _) rfl).symm.trans e0
        have e2 : a'.eval (.tmp 53) = .int .i64 o := (sv_dst (l := _) rfl).symm.trans (hA.new 2 (by decide) (by kernel_rfl))
        obtain ⟨x, hx, hrun⟩ : ∃ x, Five x ∧ (Instr.lookup 87 (.map (some b)) (.int .i64 o) true).run Tryz.prog W = .ok (.tuple #[.agg x, .bool (knownB o)]) W := by
          cases hk : knownB o with
          | true =>
            obtain ⟨fv, hf, hr⟩ := ops_yes hO o hk
            obtain ⟨x, hx, he⟩ := five_val (opOf o) fv W o hf
            exact ⟨x, hx, by have := hr true; rw [he] at this; simpa using this⟩
          | false =>
            obtain ⟨x, hx, he⟩ := five_zero
            exact ⟨x, hx, by have := ops_no hO o hk true; rw [he] at this; simpa using this⟩
        refine GoesG.value _ rfl ?_ (Grow.refl _ _ _ _) (fun s h1 h2 => ⟨x, hx, h1 rfl⟩)
        simp only [execOp, e1, e2, Sem.run_bind, hrun, Result.andThen_ok, Sem.run_pure]
      | 4, ho =>
        obtain rfl := Option.some.inj ho
        obtain ⟨x, hx, e0⟩ := hA.new 3 (by decide) (by kernel_rfl)
        have e1 : a'.eval (.tmp 54) = .tuple #[.agg x, .bool (knownB o)] := (sv_dst (l := _) rfl).symm.trans e0
        exact GoesG.move (.tmp 54) rfl rfl (Grow.refl _ _ _ _) (fun s h1 h2 => ⟨x, hx, (h1 rfl).trans e1⟩)
      | 5, ho =>
        obtain rfl := Option.some.inj ho
        obtain ⟨x, hx, e0⟩ := hA.new 4 (by decide) (by kernel_rfl)
        have e1 : a'.eval (.tmp 50) = .tuple #[.agg x, .bool (knownB o)] := (sv_dst (l := _) rfl).symm.trans e0
        refine GoesG.value (.agg x) rfl ?_ (Grow.refl _ _ _ _) (fun s h1 h2 => ⟨x, hx, h1 rfl⟩)
        simp only [execOp, e1]
        simp [go_sem]
      | 6, ho =>
        obtain rfl := Option.some.inj ho
        obtain ⟨x, hx, e0⟩ := hA.new 4 (by decide) (by kernel_rfl)
        have e1 : a'.eval (.tmp 50) = .tuple #[.agg x, .bool (knownB o)] := (sv_dst (l := _) rfl).symm.trans e0
        refine GoesG.value (.bool (knownB o)) rfl ?_ (Grow.refl _ _ _ _) (fun s h1 h2 => h1 rfl)
        simp only [execOp, e1]
        simp [go_sem]
      | 7, ho =>
        obtain rfl := Option.some.inj ho
        refine GoesG.value (.pointer (some ⟨W.heap.size, 0, none⟩)) (W' := W.alloc (.cells #[sV [], .int .i64 0, .int .i64 0, .int .i64 0, .nilFunc] tOp)) rfl ?_ (Grow.of_ext ((Below.refl _ W).alloc (Nat.le_refl _) _)) (fun s h1 h2 => ⟨_, _, h1 rfl, hA.rel.size, alloc_here _ _, rfl⟩)
        simp only [execOp]
        simp [go_sem]
        rfl
      | 8, ho =>
        obtain rfl := Option.some.inj ho
        obtain ⟨g, cc, e0, hB2, hg, hcc⟩ := hA.new 7 (by decide) (by kernel_rfl)
        obtain ⟨x, hx, e5⟩ := hA.new 5 (by decide) (by kernel_rfl)
        have e1 : a'.eval (.tmp 5) = .pointer (some ⟨g, 0, none⟩) := (sv_dst (l := _) rfl).symm.trans e0
        have e2 : a'.eval (.tmp 55) = .agg x := (sv_dst (l := _) rfl).symm.trans e5
        exact GoesG.store rfl tOp (.tmp 5) (.tmp 55) rfl g x e1 e2 tOp cc hg (by rw [hx.1]; kernel_rfl) (hcc.trans hx.1.symm) hx.2 rfl (Grow.row hg hB2 (hx.1.trans hcc.symm) trivial)
          (fun s h2 => trivial)
      | 9, ho =>
        obtain rfl := Option.some.inj ho
        have e2 : a'.eval (.tmp 56) = .bool (knownB o) := (sv_dst (l := _) rfl).symm.trans (hA.new 6 (by decide) (by kernel_rfl))
        exact GoesG.assign (.tmp 56) rfl rfl (Grow.refl _ _ _ _) (fun s h1 h2 => (h1 rfl).trans e2)
      | i + 10, ho => cases ho
    · intro vs W3 hvs hG hΦ
      obtain ⟨u0, u1, u2, u3, u4, u5, u6, u7, u8, u9, rfl⟩ := ten vs hvs
      have h9 : u9 = .bool (knownB o) := hΦ 9 (by decide)
      subst h9
      have hE3 := Lib.hid (Ext.trans hE2 hG.ext)
      have hb3 : W3.heap[B]? = some (.cells (exC 3 o [] 0 p 1 c) tEx (0, 0)) := (hG.low hlt2 hlt2).trans hb2
      have b0 : W3.cell? ⟨B, 0, none⟩ = some (.int .i64 3) := cell_of hb3 rfl
      have b1 : W3.cell? ⟨B, 1, none⟩ = some (.int .i64 o) := cell_of hb3 rfl
      have b2 : W3.cell? ⟨B, 2, none⟩ = some (sV []) := cell_of hb3 rfl
      have b3 : W3.cell? ⟨B, 3, none⟩ = some (.int .i64 0) := cell_of hb3 rfl
      clear hΦ hG hb2 hE2 hlt2 hvs hb3 n1 n2 HL HS HW HB HG
      clear W2 W
      simp only [putAll, Act.put, List.setIfInBounds_toArray, List.set_cons_succ, List.set_cons_zero]
      by_cases h1 : o = 1
      · subst h1
        have hk : knownB 1 = false := by decide
        have HZ := Lib.hid (show pc' 3 1 [] 0 1 = 0 by simp [pc', arity])
        go_wp2
        go_ret
        exact ⟨by rw [HZ.out]; rfl, hE3.out⟩
      by_cases h2 : o = 2
      · subst h2
        have hk : knownB 2 = false := by decide
        have HZ := Lib.hid (show pc' 3 2 [] 0 1 = 0 by simp [pc', arity])
        go_wp2
        go_ret
        exact ⟨by rw [HZ.out]; rfl, hE3.out⟩
      · have q_o1 : (o == 1) = false := by simp; omega
        have q_o2 : (o != 1) = true := by simp; omega
        have p_o1 : (o == 2) = false := by simp; omega
        have p_o2 : (o != 2) = true := by simp; omega
        have HZ := Lib.hid (show pc' 3 o [] 0 1 = 8 by simp [pc', arity, h1, h2])
        go_wp2
        go_ret
        exact ⟨by rw [HZ.out]; rfl, hE3.out⟩

set_option maxRecDepth 100000 in
set_option maxHeartbeats 4000000 in
theorem check_k4 (o : Int) (nm : List UInt8) (v : Int) (p : Option Addr) (m c : Nat) (w : World) (hn0 : nm.length ≤ 140737488355328) (hm0 : m ≤ 2199023255488) :
    Gives Tryz.prog 45 #[.agg (exC 4 o nm v p m c)] w (.int .i64 (pc' 4 o nm v m)) := by
  unfold Gives
  show Calls _ _ #[.agg #[.int .i64 4, .int .i64 o, sV nm, .int .i64 v, .slice p m c]] _ _
  go_enter Tryz.func45, Tryz.ntmps45
  go_wp2
  obtain ⟨B, hB⟩ : ∃ B, B = w.heap.size := ⟨_, rfl⟩
  obtain ⟨W0, hW0⟩ : ∃ W, W = w.alloc (.cells (exC 4 o nm v p m c) tEx) := ⟨_, rfl⟩
  have hbox : W0.heap[B]? = some (.cells (exC 4 o nm v p m c) tEx (0, 0)) := by rw [hW0, hB]; exact alloc_here _ _
  have hWs : W0.heap.size = B + 1 := by rw [hW0, hB]; simp
  change Code.wp _ _ _ _ (w.alloc (.cells (exC 4 o nm v p m c) tEx))
  rw [← hW0, ← hB]
  refine wp_region_g (by kernel_rfl) (Grow (B + 1) tEx (fun c' => c' = exC 4 o nm v p m c)) (Grow.drawn _ _ _) Grow.trans (ck3 B 4 (exC 4 o nm v p m c)) ck3D (ck3_st B 4 _) (by kernel_rfl) (by kernel_rfl) (by kernel_rfl) 104 rfl (by kernel_rfl) ?_ ?_
  · intro i op ho a' W hA
    have hb : W.heap[B]? = some (.cells (exC 4 o nm v p m c) tEx (0, 0)) := (hA.rel.low (by omega) (by omega)).trans hbox
    have hlt : B < W.heap.size := lt_of_block hb
    have c0 : W.cell? ⟨B, 0, none⟩ = some (.int .i64 4) := cell_of hb rfl
    have c1 : W.cell? ⟨B, 1, none⟩ = some (.int .i64 o) := cell_of hb rfl
    have c2 : W.cell? ⟨B, 2, none⟩ = some (sV nm) := cell_of hb rfl
    have c3 : W.cell? ⟨B, 3, none⟩ = some (.int .i64 v) := cell_of hb rfl
    have c4 : W.cell? ⟨B, 4, none⟩ = some (.slice p m c) := cell_of hb rfl
    match i, ho with
    | 0, ho =>
      obtain rfl := Option.some.inj ho
      have e1 : a'.eval (.tmp 1) = .pointer (some ⟨B, 0, none⟩) := hA.keep 1 (by kernel_rfl)
      refine GoesG.value (.agg (exC 4 o nm v p m c)) rfl ?_ (Grow.refl _ _ _ _) (fun s h1 h2 => h1 rfl)
      simp only [execOp, e1]
      simp [go_sem, c0, c1, c2, c3, c4, exC]
    | 1, ho =>
      obtain rfl := Option.some.inj ho
      refine GoesG.value (.slice (some ⟨W.heap.size, 0, none⟩) 5 5) (W' := W.alloc (.cells arC tInt)) rfl ?_ (Grow.of_ext ((Below.refl _ W).alloc (Nat.le_refl _) _)) (fun s h1 h2 => ⟨_, h1 rfl, alloc_here _ _⟩)
      simp only [execOp]
      simp [go_sem]
      rfl
    | 2, ho =>
      obtain rfl := Option.some.inj ho
      have e1 : a'.eval (.tmp 1) = .pointer (some ⟨B, 0, none⟩) := hA.keep 1 (by kernel_rfl)
      refine GoesG.value (.pointer (some ⟨B, 0, none⟩)) rfl ?_ (Grow.refl _ _ _ _) (fun s h1 h2 => h1 rfl)
      simp only [execOp, e1]
      simp [go_sem]
    | 3, ho =>
      obtain rfl := Option.some.inj ho
      have e1 : a'.eval (.tmp 17) = .pointer (some ⟨B, 0, none⟩) := (sv_dst (l := _) rfl).symm.trans (hA.new 2 (by decide) (by kernel_rfl))
      refine GoesG.value (.int .i64 4) rfl ?_ (Grow.refl _ _ _ _) (fun s h1 h2 => h1 rfl)
      simp only [execOp, e1]
      simp [go_sem, c0]
    | 4, ho =>
      obtain rfl := Option.some.inj ho
      obtain ⟨g, e0, hg⟩ := hA.new 1 (by decide) (by kernel_rfl)
      have e1 : a'.eval (.tmp 16) = .slice (some ⟨g, 0, none⟩) 5 5 := (sv_dst (l := _) rfl).symm.trans e0
      have e2 : a'.eval (.tmp 18) = .int .i64 4 := (sv_dst (l := _) rfl).symm.trans (hA.new 3 (by decide) (by kernel_rfl))
      refine GoesG.value (.pointer (some ⟨g, 4, none⟩)) rfl ?_ (Grow.refl _ _ _ _) (fun s h1 h2 => ⟨g, h1 rfl, hg⟩)
      simp only [execOp, e1, e2]
      simp [go_sem]
    | 5, ho =>
      obtain rfl := Option.some.inj ho
      obtain ⟨g, e0, hg⟩ := hA.new 4 (by decide) (by kernel_rfl)
      have e1 : a'.eval (.tmp 19) = .pointer (some ⟨g, 4, none⟩) := (sv_dst (l := _) rfl).symm.trans e0
      have d1 : W.cell? ⟨g, 4, none⟩ = some (.int .i64 (arity 4 : Nat)) := cell_of hg rfl
      refine GoesG.value (.int .i64 (arity 4 : Nat)) rfl ?_ (Grow.refl _ _ _ _) (fun s h1 h2 => h1 rfl)
      simp only [execOp, e1]
      simp [go_sem, d1]
    | 6, ho =>
      obtain rfl := Option.some.inj ho
      refine GoesG.value (.pointer (some ⟨W.heap.size, 0, none⟩)) (W' := W.alloc (.cells #[.int .i64 0, .int .i64 0, sV [], .int .i64 0, .slice none 0 0] tEx)) rfl ?_ (Grow.of_ext ((Below.refl _ W).alloc (Nat.le_refl _) _)) (fun s h1 h2 => ⟨_, _, h1 rfl, hlt, alloc_here _ _, rfl⟩)
      simp only [execOp]
      simp [go_sem]
      rfl
    | 7, ho =>
      obtain rfl := Option.some.inj ho
      obtain ⟨g, cc, e0, hB2, hg, hcc⟩ := hA.new 6 (by decide) (by kernel_rfl)
      have e1 : a'.eval (.tmp 3) = .pointer (some ⟨g, 0, none⟩) := (sv_dst (l := _) rfl).symm.trans e0
      have e2 : a'.eval (.tmp 15) = .agg (exC 4 o nm v p m c) := (sv_dst (l := _) rfl).symm.trans (hA.new 0 (by decide) (by kernel_rfl))
      exact GoesG.store rfl tEx (.tmp 3) (.tmp 15) rfl g (exC 4 o nm v p m c) e1 e2 tEx cc hg (by kernel_rfl) hcc (by simp [exC, Value.oneCell']) rfl (Grow.row hg (by omega) hcc.symm rfl)
        (fun s h2 => ⟨g, _, (h2 6 (by decide) (by kernel_rfl)).trans e0, hB2, setRow_heap _ _ _ _ _ _ hg, rfl⟩)
    | 8, ho =>
      obtain rfl := Option.some.inj ho
      have e2 : a'.eval (.tmp 20) = .int .i64 (arity 4 : Nat) := (sv_dst (l := _) rfl).symm.trans (hA.new 5 (by decide) (by kernel_rfl))
      exact GoesG.assign (.tmp 20) rfl rfl (Grow.refl _ _ _ _) (fun s h1 h2 => (h1 rfl).trans e2)
    | i + 9, ho => cases ho
  · intro vs W hvs hG hΦ
    obtain ⟨v0, v1, v2, v3, v4, v5, v6, v7, v8, rfl⟩ := nine vs hvs
    have h8 : v8 = .int .i64 2 := (hΦ 8 (by decide)).trans (by rfl)
    obtain ⟨g, cc, h6, hBg, hg, hcc⟩ : ∃ g cc, v6 = .pointer (some ⟨g, 0, none⟩) ∧ B < g ∧ W.heap[g]? = some (.cells cc tEx (0, 0)) ∧ cc = exC 4 o nm v p m c := hΦ 7 (by decide)
    subst hcc h8 h6
    have hE : Ext W0 W := by rw [← hWs] at hG; exact hG.ext
    have hb : W.heap[B]? = some (.cells (exC 4 o nm v p m c) tEx (0, 0)) := (hE.below.block B (lt_of_block hbox)).trans hbox
    have hwB : Ext w W := by rw [hW0] at hE; exact Ext.trans ((Below.refl _ w).alloc (Nat.le_refl _) _) hE
    clear hΦ hG hE hbox hWs
    simp only [putAll, Act.put, List.setIfInBounds_toArray, List.set_cons_succ, List.set_cons_zero]
    have b0 : W.cell? ⟨B, 0, none⟩ = some (.int .i64 4) := cell_of hb rfl
    have b1 : W.cell? ⟨B, 1, none⟩ = some (.int .i64 o) := cell_of hb rfl
    have b2 : W.cell? ⟨B, 2, none⟩ = some (sV nm) := cell_of hb rfl
    have b3 : W.cell? ⟨B, 3, none⟩ = some (.int .i64 v) := cell_of hb rfl
    have b4 : W.cell? ⟨B, 4, none⟩ = some (.slice p m c) := cell_of hb rfl
    have g1 : W.cell? ⟨g, 1, none⟩ = some (.int .i64 o) := cell_of hg rfl
    have g2 : W.cell? ⟨g, 2, none⟩ = some (sV nm) := cell_of hg rfl
    have g3 : W.cell? ⟨g, 3, none⟩ = some (.int .i64 v) := cell_of hg rfl
    have f1 : ∀ i, W.frozen? ⟨g, i, none⟩ = false := fun i => free_of hg
    have n1 : ¬ B = g := by omega
    have n2 : ¬ g = B := by omega
    have HG := Lib.hid hg
    have HB := Lib.hid hb
    have HW := Lib.hid hwB
    have HL := Lib.hid hBg
    have HS := Lib.hid (fun (off : Nat) (x : Value) => show Ext w (W.setCell ⟨g, off, none⟩ x) from Below.setCell hwB (show w.heap.size ≤ g by omega) x)
    clear hg hb hwB hBg hvs hW0 hB
    clear W0
    by_cases hn : nm = []
    rotate_left
    · have hn1 : nm.isEmpty = false := by simpa using hn
      have HZ := Lib.hid (show pc' 4 o nm v m = 1 by simp [pc', hn])
      go_wp2
      all_goals (go_ret; exact ⟨by rw [HZ.out]; rfl, HS.out _ _⟩)
    subst hn
    by_cases hv : v = 0
    rotate_left
    · have q_v1 : (v == 0) = false := by simp; omega
      have q_v2 : (v != 0) = true := by simp; omega
      have HZ := Lib.hid (show pc' 4 o [] v m = 1 by simp [pc', hv])
      go_wp2
      all_goals (go_ret; exact ⟨by rw [HZ.out]; rfl, HS.out _ _⟩)
    subst hv
    by_cases hm : m = 2
    rotate_left
    · have q_m1 : ((m : Int) == 2) = false := by simp; omega
      have q_m2 : ((m : Int) != 2) = true := by simp; omega
      have HZ := Lib.hid (show pc' 4 o [] 0 m = 1 by simp [pc', arity, hm])
      go_wp2
      all_goals (go_ret; exact ⟨by rw [HZ.out]; rfl, HS.out _ _⟩)
    subst hm
    go_wp2
    obtain ⟨W2, hW2⟩ : ∃ W2, W2 = W.setCell ⟨g, 1, none⟩ (.int .i64 0) := ⟨_, rfl⟩
    have hb2 : W2.heap[B]? = some (.cells (exC 4 o [] 0 p 2 c) tEx (0, 0)) := by rw [hW2]; exact (Below.heap_setCell _ _ _ _ n1).trans HB.out
    have hE2 : Ext w W2 := by rw [hW2]; exact HS.out _ _
    rw [← hW2]
    have hlt2 := lt_of_block hb2
    clear b0 b1 b2 b3 b4 g1 g2 g3 f1 hW2
    refine wp_region_g (by kernel_rfl) (Grow W2.heap.size tOp (fun _ => True)) (Grow.drawn _ _ _) Grow.trans (ck12 B W2.heap.size o) (fun j => [j]) (ck12_st B _ o) (by kernel_rfl) (by kernel_rfl) (by kernel_rfl) 104 rfl (by kernel_rfl) ?_ ?_
    · intro i op ho a' W hA
      have hb : W.heap[B]? = some (.cells (exC 4 o [] 0 p 2 c) tEx (0, 0)) := (hA.rel.low hlt2 hlt2).trans hb2
      have c1 : W.cell? ⟨B, 1, none⟩ = some (.int .i64 o) := cell_of hb rfl
      match i, ho with
      | 0, ho =>
        obtain rfl := Option.some.inj ho
        refine GoesG.call 63 #[] rfl ?_ ((operators_any W).mono ?_)
        · simp [execOp, resolve, invoke, Deferred.ofValue]
          rfl
        · rintro e W1 ⟨b, rfl, hO, hE⟩
          exact ⟨_, rfl, Grow.of_ext hE, fun s h1 h2 => ⟨b, h1 rfl, hO⟩⟩
      | 1, ho =>
        obtain rfl := Option.some.inj ho
        have e1 : a'.eval (.tmp 1) = .pointer (some ⟨B, 0, none⟩) := hA.keep 1 (by kernel_rfl)
        refine GoesG.value (.pointer (some ⟨B, 1, none⟩)) rfl ?_ (Grow.refl _ _ _ _) (fun s h1 h2 => h1 rfl)
        simp only [execOp, e1]
        simp [go_sem]
      | 2, ho =>
        obtain rfl := Option.some.inj ho
        have e1 : a'.eval (.tmp 52) = .pointer (some ⟨B, 1, none⟩) := (sv_dst (l := _) rfl).symm.trans (hA.new 1 (by decide) (by kernel_rfl))
        refine GoesG.value (.int .i64 o) rfl ?_ (Grow.refl _ _ _ _) (fun s h1 h2 => h1 rfl)
        simp only [execOp, e1]
        simp [go_sem, c1]
      | 3, ho =>
        obtain rfl := Option.some.inj ho
        obtain ⟨b, e0, hO⟩ := hA.new 0 (by decide) (by kernel_rfl)
        have e1 : a'.eval (.tmp 51) = .map (some b) := (sv_dst (l := _) rfl).symm.trans e0
        have e2 : a'.eval (.tmp 53) = .int .i64 o := (sv_dst (l := _) rfl).symm.trans (hA.new 2 (by decide) (by kernel_rfl))
        obtain ⟨x, hx, hrun⟩ : ∃ x, Five x ∧ (Instr.lookup 87 (.map (some b)) (.int .i64 o) true).run Tryz.prog W = .ok (.tuple #[.agg x, .bool (knownB o)]) W := by
          cases hk : knownB o with
          | true =>
            obtain ⟨fv, hf, hr⟩ := ops_yes hO o hk
            obtain ⟨x, hx, he⟩ := five_val (opOf o) fv W o hf
            exact ⟨x, hx, by have := hr true; rw [he] at this; simpa using this⟩
          | false =>
            obtain ⟨x, hx, he⟩ := five_zero
            exact ⟨x, hx, by have := ops_no hO o hk true; rw [he] at this; simpa using this⟩
        refine GoesG.value _ rfl ?_ (Grow.refl _ _ _ _) (fun s h1 h2 => ⟨x, hx, h1 rfl⟩)
        simp only [execOp, e1, e2, Sem.run_bind, hrun, Result.andThen_ok, Sem.run_pure]
      | 4, ho =>
        obtain rfl := Option.some.inj ho
        obtain ⟨x, hx, e0⟩ := hA.new 3 (by decide) (by kernel_rfl)
        have e1 : a'.eval (.tmp 54) = .tuple #[.agg x, .bool (knownB o)] := (sv_dst (l := _) rfl).symm.trans e0
        exact GoesG.move (.tmp 54) rfl rfl (Grow.refl _ _ _ _) (fun s h1 h2 => ⟨x, hx, (h1 rfl).trans e1⟩)
      | 5, ho =>
        obtain rfl := Option.some.inj ho
        obtain ⟨x, hx, e0⟩ := hA.new 4 (by decide) (by kernel_rfl)
        have e1 : a'.eval (.tmp 50) = .tuple #[.agg x, .bool (knownB o)] := (sv_dst (l := _) rfl).symm.trans e0
        refine GoesG.value (.agg x) rfl ?_ (Grow.refl _ _ _ _) (fun s h1 h2 => ⟨x, hx, h1 rfl⟩)
        simp only [execOp, e1]
        simp [go_sem]
      | 6, ho =>
        obtain rfl := Option.some.inj ho
        obtain ⟨x, hx, e0⟩ := hA.new 4 (by decide) (by kernel_rfl)
        have e1 : a'.eval (.tmp 50) = .tuple #[.agg x, .bool (knownB o)] := (sv_dst (l := _) rfl).symm.trans e0
        refine GoesG.value (.bool (knownB o)) rfl ?_ (Grow.refl _ _ _ _) (fun s h1 h2 => h1 rfl)
        simp only [execOp, e1]
        simp [go_sem]
      | 7, ho =>
        obtain rfl := Option.some.inj ho
        refine GoesG.value (.pointer (some ⟨W.heap.size, 0, none⟩)) (W' := W.alloc (.cells #[sV [], .int .i64 0, .int .i64 0, .int .i64 0, .nilFunc] tOp)) rfl ?_ (Grow.of_ext ((Below.refl _ W).alloc (Nat.le_refl _) _)) (fun s h1 h2 => ⟨_, _, h1 rfl, hA.rel.size, alloc_here _ _, rfl⟩)
        simp only [execOp]
        simp [go_sem]
        rfl
      | 8, ho =>
        obtain rfl := Option.some.inj ho
        obtain ⟨g, cc, e0, hB2, hg, hcc⟩ := hA.new 7 (by decide) (by kernel_rfl)
        obtain ⟨x, hx, e5⟩ := hA.new 5 (by decide) (by kernel_rfl)
        have e1 : a'.eval (.tmp 5) = .pointer (some ⟨g, 0, none⟩) := (sv_dst (l := _) rfl).symm.trans e0
        have e2 : a'.eval (.tmp 55) = .agg x := (sv_dst (l := _) rfl).symm.trans e5
        exact GoesG.store rfl tOp (.tmp 5) (.tmp 55) rfl g x e1 e2 tOp cc hg (by rw [hx.1]; kernel_rfl) (hcc.trans hx.1.symm) hx.2 rfl (Grow.row hg hB2 (hx.1.trans hcc.symm) trivial)
          (fun s h2 => trivial)
      | 9, ho =>
        obtain rfl := Option.some.inj ho
        have e2 : a'.eval (.tmp 56) = .bool (knownB o) := (sv_dst (l := _) rfl).symm.trans (hA.new 6 (by decide) (by kernel_rfl))
        exact GoesG.assign (.tmp 56) rfl rfl (Grow.refl _ _ _ _) (fun s h1 h2 => (h1 rfl).trans e2)
      | i + 10, ho => cases ho
    · intro vs W3 hvs hG hΦ
      obtain ⟨u0, u1, u2, u3, u4, u5, u6, u7, u8, u9, rfl⟩ := ten vs hvs
      have h9 : u9 = .bool (knownB o) := hΦ 9 (by decide)
      subst h9
      have hE3 := Lib.hid (Ext.trans hE2 hG.ext)
      have hb3 : W3.heap[B]? = some (.cells (exC 4 o [] 0 p 2 c) tEx (0, 0)) := (hG.low hlt2 hlt2).trans hb2
      have b0 : W3.cell? ⟨B, 0, none⟩ = some (.int .i64 4) := cell_of hb3 rfl
      have b1 : W3.cell? ⟨B, 1, none⟩ = some (.int .i64 o) := cell_of hb3 rfl
      have b2 : W3.cell? ⟨B, 2, none⟩ = some (sV []) := cell_of hb3 rfl
      have b3 : W3.cell? ⟨B, 3, none⟩ = some (.int .i64 0) := cell_of hb3 rfl
      clear hΦ hG hb2 hE2 hlt2 hvs hb3 n1 n2 HL HS HW HB HG
      clear W2 W
      simp only [putAll, Act.put, List.setIfInBounds_toArray, List.set_cons_succ, List.set_cons_zero]
      cases hk : knownB o
      · have hk2 : ¬ (3 ≤ o ∧ o ≤ 15) := by simpa [knownB] using hk
        have HZ := Lib.hid (show pc' 4 o [] 0 2 = 8 by simp [pc', arity]; omega)
        clear hk2
        go_wp2
        go_ret
        exact ⟨by rw [HZ.out]; rfl, hE3.out⟩
      · have hk2 : 3 ≤ o ∧ o ≤ 15 := by simpa [knownB] using hk
        have HZ := Lib.hid (show pc' 4 o [] 0 2 = 0 by simp [pc', arity]; omega)
        clear hk2
        go_wp2
        go_ret
        exact ⟨by rw [HZ.out]; rfl, hE3.out⟩

theorem check_low (k o : Int) (nm : List UInt8) (v : Int) (p : Option Addr) (m c : Nat) (w : World) (h : k < 1 ∨ 4 < k) : Gives Tryz.prog 45 #[.agg (exC k o nm v p m c)] w (.int .i64 8) := by
  unfold Gives
  show Calls _ _ #[.agg #[.int .i64 k, .int .i64 o, sV nm, .int .i64 v, .slice p m c]] _ _
  rcases h with h | h
  · go_enter Tryz.func45, Tryz.ntmps45
    go_wp2
    go_ret
    exact ⟨rfl, (Below.refl _ w).alloc (Nat.le_refl _) _⟩
  · go_enter Tryz.func45, Tryz.ntmps45
    go_wp2
    go_ret
    exact ⟨rfl, (Below.refl _ w).alloc (Nat.le_refl _) _⟩
/-- why a part alone is not valid -/
theorem check_any (e : Ex) (p : Option Addr) (c : Nat) (w : World) (hf : Ex.fits e) : Gives Tryz.prog 45 #[e.val p c] w (.int .i64 (pc e)) := by
  have h3 := hf.2.2.1
  have h5 := hf.2.2.2.2
  show Gives _ _ #[.agg (exC e.kind e.op e.name e.value p e.args.length c)] _ _
  unfold pc
  generalize e.kind = k at *
  generalize e.op = o at *
  generalize e.name = nm at *
  generalize e.value = v at *
  generalize e.args.length = m at *
  by_cases h : k < 1 ∨ 4 < k
  · rw [show pc' k o nm v m = 8 by simp [pc', h]]
    exact check_low k o nm v p m c w h
  · obtain rfl | rfl | rfl | rfl : k = 1 ∨ k = 2 ∨ k = 3 ∨ k = 4 := by omega
    · exact check_k1 o nm v p m c w h3 h5
    · exact check_k2 o nm v p m c w h3 h5
    · exact check_k3 o nm v p m c w h3 h5
    · exact check_k4 o nm v p m c w h3 h5

end Go.Proofs.YtgkalcboklhdgaaGreatDoor

namespace Go.Proofs.YtgkalcboklhdgaaGreatDoor
open Go.RowKit
set_option linter.unusedVariables false
set_option linter.unusedSimpArgs false
open Ex

set_option maxHeartbeats 1000000 in
theorem refsize_any : ∀ (n : Nat) (e : Ex), e.size ≤ n → ∀ (p : Option Addr) (c : Nat) (m : Nat) (w : World), Ex.At w p e → m ≤ 100 →
    Calls Tryz.prog 48 #[e.val p c, .int .i64 (m : Int)] w fun x w' => ∃ r : Nat, x = .returned (.int .i64 (r : Int)) ∧ Below w.heap.size w w' ∧ r ≤ 101 ∧ (m + e.size ≤ 100 → r = m + e.size) ∧ (100 < m + e.size → 100 < r) := by
  intro n
  induction n with
  | zero => intro e he; have := e.size_pos; omega
  | succ n ih =>
    intro e he p c m w hA hm
    obtain ⟨k, o, nm, v, ts⟩ := e
    have HA := Lib.hid hA
    have hl : ts.length ≤ 2199023255488 := hA.fit.2.2.2.2
    have HS := Lib.hid (fun j (h : j < ts.length) => size_get ts j h)
    have HT := Lib.hid (sizes_take ts)
    have HM := Lib.hid (sizes_mono ts)
    have hN : (Ex.mk k o nm v ts).size = 1 + sizes ts := rfl
    rw [hN] at he ⊢
    have hv : (Ex.mk k o nm v ts).val p c = .agg #[.int .i64 k, .int .i64 o, sV nm, .int .i64 v, .slice p ts.length c] := rfl
    rw [hv]
    have IH := Lib.hid ih
    clear hA hN hv ih
    go_enter Tryz.func48, Tryz.ntmps48
    go_wp2
    go_loopw [1, 5] (fun a i wr => ∃ (r j : Nat), j ≤ ts.length ∧ a = .int .i64 (r : Int) ∧ i = .int .i64 (j : Int) ∧ Ext (w.alloc (.cells #[.int .i64 k, .int .i64 o, sV nm, .int .i64 v, .slice p ts.length c] 24)) wr ∧ r ≤ 101 ∧ (m + 1 + sizes (ts.take j) ≤ 100 → r = m + 1 + sizes (ts.take j)) ∧ (100 < m + 1 + sizes (ts.take j) → 100 < r)) (fun _ i _ => ts.length - (intOf i).toNat)
    case atStart => exact ⟨m + 1, 0, Nat.zero_le _, by go_num, rfl, Below.refl _ _, by omega, by simp [sizes], by simp [sizes]⟩
    case round =>
      obtain ⟨r, j, hj, rfl, rfl, hE, hr, h1, h2⟩ := hrel
      obtain ⟨b0, b1, b2, b3, b4, hW⟩ := hE.box
      have HE := Lib.hid hE
      clear hE
      by_cases hlt : j < ts.length
      · obtain ⟨b, off, q, cc, rfl, ⟨c0, c1, c2, c3, c4⟩, hA⟩ := (HA.out.below hW).get j hlt
        have hs := HS.out j hlt
        have ht := HT.out j hlt
        by_cases h100 : 100 < r
        · have HR := Lib.hid (show (100 < m + 1 + sizes ts) by have := HM.out j; omega)
          go_wp2
          go_ret
          exact ⟨r, rfl, hW, hr, fun h => absurd HR.out (by omega), fun _ => h100⟩
        · have C := IH.out (ts[j]) (by omega) q cc r wr hA (by omega)
          change Calls _ _ #[.agg #[.int .i64 (ts[j]).kind, .int .i64 (ts[j]).op, sV (ts[j]).name, .int .i64 (ts[j]).value, .slice q (ts[j]).args.length cc], _] _ _ at C
          generalize (ts[j]).kind = k1 at *
          generalize (ts[j]).op = o1 at *
          generalize (ts[j]).name = n1 at *
          generalize (ts[j]).value = v1 at *
          generalize (ts[j]).args.length = l1 at *
          generalize (ts[j]).size = s1 at *
          clear hA
          go_wp2_with fail
          refine C.mono ?_
          rintro e w2 ⟨r2, rfl, hB2, h3, h4, h5⟩
          go_wp2
          go_roundw
          case rel => exact ⟨r2, j + 1, by omega, rfl, by go_num, Ext.trans HE.out hB2, h3, by omega, by omega⟩
          case measure => simp [intOf]; omega
      · have hk : ts.take j = ts := List.take_of_length_le (by omega)
        rw [hk] at h1 h2
        go_wp2
        go_ret
        exact ⟨r, rfl, hW, hr, by omega, by omega⟩

theorem refSize_any (e : Ex) (p : Option Addr) (c : Nat) (w : World) (hA : Ex.At w p e) : Gives Tryz.prog 20 #[e.val p c] w (.int .i64 (min e.size 101 : Nat)) := by
  have C := refsize_any e.size e (Nat.le_refl _) p c 0
  change ∀ (w : World), _ → _ → Calls _ _ #[.agg #[.int .i64 e.kind, .int .i64 e.op, sV e.name, .int .i64 e.value, .slice p e.args.length c], _] _ _ at C
  have C1 := Lib.hid (fun W (h : Ext w W) => C W (hA.below h) (by omega))
  clear C
  unfold Gives Ex.val
  generalize e.kind = k1 at *
  generalize e.op = o1 at *
  generalize e.name = n1 at *
  generalize e.value = v1 at *
  generalize e.args.length = l1 at *
  generalize e.size = s1 at *
  clear hA
  go_enter Tryz.func20, Tryz.ntmps20
  go_wp2_with fail
  refine (C1.out _ ((Below.refl _ w).alloc (Nat.le_refl _) _)).mono ?_
  rintro x w1 ⟨r, rfl, hB, h1, h2, h3⟩
  have HB := Lib.hid (show Below w.heap.size w w1 from Below.trans ((Below.refl _ w).alloc (Nat.le_refl _) _) (hB.mono (by simp)))
  clear hB C1
  by_cases h : 100 < r
  · have hz : ((min s1 101 : Nat) : Int) = 101 := by omega
    have HZ := Lib.hid hz
    clear hz
    go_wp2
    go_ret
    exact ⟨by rw [HZ.out]; rfl, HB.out⟩
  · have hz : ((min s1 101 : Nat) : Int) = (r : Int) := by omega
    have HZ := Lib.hid hz
    clear hz
    go_wp2
    go_ret
    exact ⟨by rw [HZ.out]; rfl, HB.out⟩

end Go.Proofs.YtgkalcboklhdgaaGreatDoor

namespace Go.Proofs.YtgkalcboklhdgaaGreatDoor
open Go.RowKit
set_option linter.unusedVariables false
set_option linter.unusedSimpArgs false
open Ex

mutual
/-- a name of more than 40 bytes -/
def Ex.long : Ex → Bool
  | .mk _ _ n _ es => decide (40 < n.length) || Ex.longs es
def Ex.longs : List Ex → Bool
  | [] => false
  | e :: es => e.long || Ex.longs es
end
theorem Ex.longs_take (es : List Ex) (j : Nat) (h : j < es.length) : longs (es.take (j + 1)) = (longs (es.take j) || (es[j]).long) := by
  induction es generalizing j with
  | nil => simp at h
  | cons e es ih =>
    cases j with
    | zero => simp [longs]
    | succ j =>
      have h' : j < es.length := by simpa using h
      rw [List.take_succ_cons, longs, ih j h', List.take_succ_cons, longs, List.getElem_cons_succ, Bool.or_assoc]
theorem Ex.longs_of_take (es : List Ex) (j : Nat) (h : longs (es.take j) = true) : longs es = true := by
  induction es generalizing j with
  | nil => simp [longs] at h
  | cons e es ih =>
    cases j with
    | zero => simp [longs] at h
    | succ j =>
      rw [List.take_succ_cons, longs, Bool.or_eq_true] at h
      rw [longs, Bool.or_eq_true]
      exact h.imp id (ih j)

set_option maxHeartbeats 1000000 in
theorem depth_any : ∀ (n : Nat) (e : Ex), e.size ≤ n → ∀ (p : Option Addr) (c : Nat) (w : World), Ex.At w p e → e.size ≤ 100 →
    Gives Tryz.prog 46 #[e.val p c] w (.int .i64 (e.height : Nat)) := by
  intro n
  induction n with
  | zero => intro e he; have := e.size_pos; omega
  | succ n ih =>
    intro e he p c w hA hm
    obtain ⟨k, o, nm, v, ts⟩ := e
    have HA := Lib.hid hA
    have hl : ts.length ≤ 2199023255488 := hA.fit.2.2.2.2
    have HS := Lib.hid (fun j (h : j < ts.length) => size_get ts j h)
    have hN : (Ex.mk k o nm v ts).size = 1 + sizes ts := rfl
    have hv : (Ex.mk k o nm v ts).val p c = .agg #[.int .i64 k, .int .i64 o, sV nm, .int .i64 v, .slice p ts.length c] := rfl
    rw [hv]
    have IH := Lib.hid ih
    clear hA hv ih
    have hh : (Ex.mk k o nm v ts).height = 1 + heights ts := rfl
    rw [hh]
    have hb : heights ts ≤ sizes ts := heights_le ts
    clear hh
    have HT := Lib.hid (heights_take ts)
    have HB := Lib.hid (fun j => Nat.le_trans (heights_le (ts.take j)) (sizes_mono ts j))
    unfold Gives
    go_enter Tryz.func46, Tryz.ntmps46
    go_wp2
    go_loopw [3, 4] (fun a i wr => ∃ (j : Nat), j ≤ ts.length ∧ a = .int .i64 (heights (ts.take j) : Nat) ∧ i = .int .i64 (j : Int) ∧ Ext (w.alloc (.cells #[.int .i64 k, .int .i64 o, sV nm, .int .i64 v, .slice p ts.length c] 24)) wr) (fun _ i _ => ts.length - (intOf i).toNat)
    case atStart => exact ⟨0, Nat.zero_le _, rfl, rfl, Below.refl _ _⟩
    case round =>
      obtain ⟨j, hj, rfl, rfl, hE⟩ := hrel
      obtain ⟨b0, b1, b2, b3, b4, hW⟩ := hE.box
      have HE := Lib.hid hE
      clear hE
      have hbj := HB.out j
      by_cases hlt : j < ts.length
      · obtain ⟨b, off, q, cc, rfl, hcs, hA0⟩ := HA.out.get j hlt
        obtain ⟨c0, c1, c2, c3, c4⟩ := hcs.below hW
        have hA := hA0.below hW
        clear hcs
        have hs := HS.out j hlt
        have ht := HT.out j hlt
        have C := IH.out (ts[j]) (by omega) q cc wr hA (by omega)
        have hle := height_le (ts[j])
        unfold Gives at C
        change Calls _ _ #[.agg #[.int .i64 (ts[j]).kind, .int .i64 (ts[j]).op, sV (ts[j]).name, .int .i64 (ts[j]).value, .slice q (ts[j]).args.length cc]] _ _ at C
        generalize (ts[j]).kind = k1 at *
        generalize (ts[j]).op = o1 at *
        generalize (ts[j]).name = n1 at *
        generalize (ts[j]).value = v1 at *
        generalize (ts[j]).args.length = l1 at *
        generalize (ts[j]).size = s1 at *
        generalize (ts[j]).height = g1 at *
        generalize heights (ts.take j) = g0 at *
        have HG := Lib.hid ht
        clear ht
        clear hA
        go_wp2_with fail
        refine C.mono ?_
        rintro e w2 ⟨rfl, hB2⟩
        by_cases hgt : g0 < g1
        · have hg := Lib.hid (show heights (ts.take (j + 1)) = g1 by have := HG.out; omega)
          go_wp2
          go_roundw
          case rel => exact ⟨j + 1, by omega, by rw [hg.out], by go_num, Ext.trans HE.out hB2⟩
          case measure => simp [intOf]; omega
        · have hg := Lib.hid (show heights (ts.take (j + 1)) = g0 by have := HG.out; omega)
          go_wp2
          go_roundw
          case rel => exact ⟨j + 1, by omega, by rw [hg.out], by go_num, Ext.trans HE.out hB2⟩
          case measure => simp [intOf]; omega
      · have hk : ts.take j = ts := List.take_of_length_le (by omega)
        have HZ := Lib.hid (show heights ts = heights (ts.take j) by rw [hk])
        clear hk
        generalize heights (ts.take j) = g0 at *
        go_wp2
        go_ret
        exact ⟨by rw [HZ.out]; go_num, hW⟩

set_option maxHeartbeats 1000000 in
theorem long_any : ∀ (n : Nat) (e : Ex), e.size ≤ n → ∀ (p : Option Addr) (c : Nat) (w : World), Ex.At w p e →
    Gives Tryz.prog 28 #[e.val p c] w (.bool e.long) := by
  intro n
  induction n with
  | zero => intro e he; have := e.size_pos; omega
  | succ n ih =>
    intro e he p c w hA
    have hf : e.name.length ≤ 140737488355328 := hA.fit.2.2.1
    obtain ⟨k, o, nm, v, ts⟩ := e
    have HA := Lib.hid hA
    have hl : ts.length ≤ 2199023255488 := hA.fit.2.2.2.2
    have HS := Lib.hid (fun j (h : j < ts.length) => size_get ts j h)
    have hN : (Ex.mk k o nm v ts).size = 1 + sizes ts := rfl
    have hv : (Ex.mk k o nm v ts).val p c = .agg #[.int .i64 k, .int .i64 o, sV nm, .int .i64 v, .slice p ts.length c] := rfl
    rw [hv]
    have IH := Lib.hid ih
    clear hA hv ih
    have hh : (Ex.mk k o nm v ts).long = (decide (40 < nm.length) || longs ts) := rfl
    rw [hh]
    change nm.length ≤ _ at hf
    clear hh
    have HT := Lib.hid (longs_take ts)
    have HO := Lib.hid (longs_of_take ts)
    unfold Gives
    by_cases hn : 40 < nm.length
    · have HZ := Lib.hid (show (decide (40 < nm.length) || longs ts) = true by simp [hn])
      go_enter Tryz.func28, Tryz.ntmps28
      go_wp2
      go_ret
      exact ⟨by rw [HZ.out]; rfl, (Below.refl _ w).alloc (Nat.le_refl _) _⟩
    · have HZ := Lib.hid (show (decide (40 < nm.length) || longs ts) = longs ts by simp [hn])
      go_enter Tryz.func28, Tryz.ntmps28
      go_wp2
      go_loopw [3] (fun i wr => ∃ (j : Nat), j ≤ ts.length ∧ i = .int .i64 (j : Int) ∧ longs (ts.take j) = false ∧ Ext (w.alloc (.cells #[.int .i64 k, .int .i64 o, sV nm, .int .i64 v, .slice p ts.length c] 24)) wr) (fun i _ => ts.length - (intOf i).toNat)
      case atStart => exact ⟨0, Nat.zero_le _, rfl, rfl, Below.refl _ _⟩
      case round =>
        obtain ⟨j, hj, rfl, hl0, hE⟩ := hrel
        obtain ⟨b0, b1, b2, b3, b4, hW⟩ := hE.box
        have HE := Lib.hid hE
        clear hE
        have HL := Lib.hid hl0
        clear hl0
        by_cases hlt : j < ts.length
        · obtain ⟨b, off, q, cc, rfl, hcs, hA0⟩ := HA.out.get j hlt
          obtain ⟨c0, c1, c2, c3, c4⟩ := hcs.below hW
          have hA := hA0.below hW
          clear hcs
          have hs := HS.out j hlt
          have ht := HT.out j hlt
          have C := IH.out (ts[j]) (by omega) q cc wr hA
          unfold Gives at C
          change Calls _ _ #[.agg #[.int .i64 (ts[j]).kind, .int .i64 (ts[j]).op, sV (ts[j]).name, .int .i64 (ts[j]).value, .slice q (ts[j]).args.length cc]] _ _ at C
          rw [HL.out, Bool.false_or] at ht
          have HR := Lib.hid ht
          clear ht
          generalize (ts[j]).kind = k1 at *
          generalize (ts[j]).op = o1 at *
          generalize (ts[j]).name = n1 at *
          generalize (ts[j]).value = v1 at *
          generalize (ts[j]).args.length = l1 at *
          generalize (ts[j]).size = s1 at *
          clear hA
          cases hg : (ts[j]).long with
          | true =>
            rw [hg] at C
            have HO2 := Lib.hid (HO.out (j + 1) (by rw [HR.out, hg]))
            clear hg
            go_wp2_with fail
            refine C.mono ?_
            rintro e w2 ⟨rfl, hB2⟩
            go_wp2
            go_ret
            exact ⟨by rw [HZ.out, HO2.out]; rfl, Ext.trans hW hB2⟩
          | false =>
            rw [hg] at C
            have HR2 := Lib.hid (HR.out.trans hg)
            clear hg
            go_wp2_with fail
            refine C.mono ?_
            rintro e w2 ⟨rfl, hB2⟩
            go_wp2
            go_roundw
            case rel => exact ⟨j + 1, by omega, by go_num, HR2.out, Ext.trans HE.out hB2⟩
            case measure => simp [intOf]; omega
        · have hk : ts.take j = ts := List.take_of_length_le (by omega)
          rw [hk] at HL
          go_wp2
          go_ret
          exact ⟨by rw [HZ.out, HL.out]; rfl, hW⟩

end Go.Proofs.YtgkalcboklhdgaaGreatDoor

namespace Go.Proofs.YtgkalcboklhdgaaGreatDoor
open Go.RowKit
set_option linter.unusedVariables false
set_option linter.unusedSimpArgs false
open Ex

/-- larger than the statements examine -/
def Ex.great (e : Ex) : Bool := decide (40 < e.size ∧ e.size ≤ 100) || (decide (e.size ≤ 40) && e.long)

theorem Great_any (e : Ex) (p : Option Addr) (c : Nat) (w : World) (hA : Ex.At w p e) : Gives Tryz.prog 6 #[e.val p c] w (.bool e.great) := by
  have C1 := Lib.hid (fun W (h : Ext w W) => show Gives _ _ #[.agg #[.int .i64 e.kind, .int .i64 e.op, sV e.name, .int .i64 e.value, .slice p e.args.length c]] _ _ from refSize_any e p c W (hA.below h))
  have C2 := Lib.hid (fun W (h : Ext w W) => show Gives _ _ #[.agg #[.int .i64 e.kind, .int .i64 e.op, sV e.name, .int .i64 e.value, .slice p e.args.length c]] _ _ from long_any e.size e (Nat.le_refl _) p c W (hA.below h))
  unfold Ex.val
  have hg : e.great = (decide (40 < e.size ∧ e.size ≤ 100) || (decide (e.size ≤ 40) && e.long)) := rfl
  have HG := Lib.hid hg
  have hpos := e.size_pos
  generalize e.great = gr at *
  generalize e.long = lo at *
  generalize e.kind = k1 at *
  generalize e.op = o1 at *
  generalize e.name = n1 at *
  generalize e.value = v1 at *
  generalize e.args.length = l1 at *
  generalize e.size = s1 at *
  clear hA hg
  unfold Gives
  by_cases h1 : s1 ≤ 40
  · have HZ := Lib.hid (show gr = lo by rw [HG.out]; simp [h1]; omega)
    have hm : min s1 101 = s1 := by omega
    rw [hm] at C1
    clear hm
    go_enter Tryz.func6, Tryz.ntmps6
    go_wp2_with fail
    refine (C1.out _ ((Below.refl _ w).alloc (Nat.le_refl _) _)).mono ?_
    intro w1 hB
    obtain ⟨b0, b1, b2, b3, b4, hW⟩ := Ext.box hB
    have HW := Lib.hid hW
    clear hB C1 hW
    go_wp2_with fail
    refine (C2.out _ HW.out).mono ?_
    intro w2 hB
    cases lo
    · go_wp2
      go_ret
      exact ⟨by rw [HZ.out]; rfl, Ext.trans HW.out hB⟩
    · go_wp2
      go_ret
      exact ⟨by rw [HZ.out]; rfl, Ext.trans HW.out hB⟩
  · by_cases h2 : s1 ≤ 100
    · have HZ := Lib.hid (show gr = true by rw [HG.out]; simp; omega)
      have hm : min s1 101 = s1 := by omega
      rw [hm] at C1
      clear hm
      go_enter Tryz.func6, Tryz.ntmps6
      go_wp2_with fail
      refine (C1.out _ ((Below.refl _ w).alloc (Nat.le_refl _) _)).mono ?_
      intro w1 hB
      obtain ⟨b0, b1, b2, b3, b4, hW⟩ := Ext.box hB
      have HW := Lib.hid hW
      clear hB C1 hW
      go_wp2
      go_ret
      exact ⟨by rw [HZ.out]; rfl, HW.out⟩
    · have HZ := Lib.hid (show gr = false by rw [HG.out]; simp; omega)
      have hm : min s1 101 = 101 := by omega
      rw [hm] at C1
      clear hm
      go_enter Tryz.func6, Tryz.ntmps6
      go_wp2_with fail
      refine (C1.out _ ((Below.refl _ w).alloc (Nat.le_refl _) _)).mono ?_
      intro w1 hB
      obtain ⟨b0, b1, b2, b3, b4, hW⟩ := Ext.box hB
      have HW := Lib.hid hW
      clear hB C1 hW
      go_wp2
      go_ret
      exact ⟨by rw [HZ.out]; rfl, HW.out⟩

/-- a number in a block of its own -/
abbrev numO (m : Nat) : Obj := .cells #[.int .i64 (m : Int)] 3
theorem num_succ (m : Nat) : numO (m + 1) = .cells #[.int .i64 ((m : Int) + 1)] 3 := by unfold numO; rw [Int.natCast_add]; rfl

set_option maxHeartbeats 2000000 in
theorem measure_any (w0 : World) : ∀ (n : Nat) (e : Ex), e.size ≤ n → ∀ (p : Option Addr) (c m d g : Nat) (D : Int) (w : World), D = d → Ex.At w0 p e → Ext w0 w → w0.heap.size ≤ g → w.heap[g]? = some (numO m) → m ≤ 100 → 1 ≤ d → d ≤ m + 1 →
    Calls Tryz.prog 44 #[e.val p c, .int .i64 D, .pointer (some ⟨g, 0, none⟩)] w fun x w' => ∃ r m1 : Nat, x = .returned (.int .i64 (r : Int)) ∧ Turn g (numO m1) w w' ∧ m1 ≤ 101 ∧ r ≤ 101 ∧ (m + e.size ≤ 100 → m1 = m + e.size ∧ r + 1 = d + e.height) ∧ (100 < m + e.size → 100 < m1) := by
  intro n
  induction n with
  | zero => intro e he; have := e.size_pos; omega
  | succ n ih =>
    intro e he p c m d g D w hD hA hE0 hg hgm hm hd hdm
    subst hD
    obtain ⟨k, o, nm, v, ts⟩ := e
    have HA := Lib.hid hA
    have hl : ts.length ≤ 2199023255488 := hA.fit.2.2.2.2
    have HS := Lib.hid (fun j (h : j < ts.length) => size_get ts j h)
    have hN : (Ex.mk k o nm v ts).size = 1 + sizes ts := rfl
    have hv : (Ex.mk k o nm v ts).val p c = .agg #[.int .i64 k, .int .i64 o, sV nm, .int .i64 v, .slice p ts.length c] := rfl
    rw [hv]
    have IH := Lib.hid ih
    clear hA hv ih
    have hh : (Ex.mk k o nm v ts).height = 1 + heights ts := rfl
    rw [hh]
    clear hh
    have HT := Lib.hid (sizes_take ts)
    have HU := Lib.hid (heights_take ts)
    have HM := Lib.hid (sizes_mono ts)
    have hglt := lt_of_block hgm
    have hgc : w.cell? ⟨g, 0, none⟩ = some (.int .i64 (m : Int)) := cell_of hgm rfl
    have hgf : w.frozen? ⟨g, 0, none⟩ = false := free_of hgm
    have T0 := Lib.hid (Turn.refl hgm)
    have HE0 := Lib.hid hE0
    clear hgm hE0
    by_cases hmm : m = 100
    · subst hmm
      have HN2 : 100 < 100 + (1 + sizes ts) := by omega
      go_enter Tryz.func44, Tryz.ntmps44
      go_wp2
      go_ret
      exact ⟨d, 101, rfl, ((show Turn g (numO 101) w _ from T0.out.setCell (i := 0) (.int .i64 101)).alloc _), Nat.le_refl _, by omega, by omega, by omega⟩
    · have T1 := Lib.hid ((show Turn g (numO (m + 1)) w (w.setCell ⟨g, 0, none⟩ (.int .i64 ((m : Int) + 1))) by rw [num_succ]; exact T0.out.setCell (i := 0) (.int .i64 ((m : Int) + 1))).alloc (.cells #[.int .i64 k, .int .i64 o, sV nm, .int .i64 v, .slice p ts.length c] 24))
      go_enter Tryz.func44, Tryz.ntmps44
      go_wp2
      go_loopw [7, 28] (fun a i wr => ∃ (r m1 j : Nat), j ≤ ts.length ∧ a = .int .i64 (r : Int) ∧ i = .int .i64 (j : Int) ∧ Turn g (numO m1) w wr ∧ m1 ≤ 101 ∧ r ≤ 101 ∧ d ≤ m1 ∧ (m + 1 + sizes (ts.take j) ≤ 100 → m1 = m + 1 + sizes (ts.take j) ∧ r = d + heights (ts.take j)) ∧ (100 < m + 1 + sizes (ts.take j) → 100 < m1)) (fun _ i _ => ts.length - (intOf i).toNat)
      case atStart => exact ⟨d, m + 1, 0, Nat.zero_le _, rfl, rfl, T1.out, by omega, by omega, by omega, by simp [sizes, heights], by simp [sizes]⟩
      case round =>
        obtain ⟨r, m1, j, hj, rfl, rfl, hT, hm1, hr, hdm1, h1, h2⟩ := hrel
        have HT1 := Lib.hid hT
        have hcell : wr.cell? ⟨g, 0, none⟩ = some (.int .i64 (m1 : Int)) := cell_of hT.here rfl
        have hne : g < wr.heap.size := cell_lt' hcell
        have hW : Ext w0 wr := Below.trans HE0.out (hT.below hg (HE0.out.size)) 
        clear hT
        by_cases hlt : j < ts.length
        · obtain ⟨b, off, q, cc, rfl, hcs, hA0⟩ := HA.out.get j hlt
          obtain ⟨c0, c1, c2, c3, c4⟩ := hcs.below hW
          have hA := hA0.below hW
          clear hcs
          have hs := HS.out j hlt
          have ht := HT.out j hlt
          have hu := HU.out j hlt
          have hmo := HM.out (j + 1)
          by_cases h100 : 100 < m1
          · go_wp2
            go_ret
            exact ⟨r, m1, rfl, HT1.out.alloc _, hm1, hr, by omega, by omega⟩
          · have C := IH.out (ts[j]) (by omega) q cc m1 (d + 1) g ((d : Int) + 1)
            have C1 := Lib.hid (fun W h1 h2 => show Calls _ _ #[.agg #[.int .i64 (ts[j]).kind, .int .i64 (ts[j]).op, sV (ts[j]).name, .int .i64 (ts[j]).value, .slice q (ts[j]).args.length cc], _, _] _ _ from C W (by omega) hA0 h1 hg h2 (by omega) (by omega) (by omega))
            clear C hA hA0
            have HTA := Lib.hid (HT1.out.alloc (.cells #[.int .i64 (ts[j]).kind, .int .i64 (ts[j]).op, sV (ts[j]).name, .int .i64 (ts[j]).value, .slice q (ts[j]).args.length cc] 24))
            have HWA := Lib.hid (hW.alloc (Nat.le_trans HE0.out.size HT1.out.size) (.cells #[.int .i64 (ts[j]).kind, .int .i64 (ts[j]).op, sV (ts[j]).name, .int .i64 (ts[j]).value, .slice q (ts[j]).args.length cc] 24))
            clear hW
            generalize (ts[j]).kind = k1 at *
            generalize (ts[j]).op = o1 at *
            generalize (ts[j]).name = n1 at *
            generalize (ts[j]).value = v1 at *
            generalize (ts[j]).args.length = l1 at *
            generalize (ts[j]).size = s1 at *
            generalize (ts[j]).height = g1 at *
            go_wp2_with fail
            refine (C1.out _ HWA.out HTA.out.here).mono ?_
            rintro e w2 ⟨r2, m2, rfl, hT2, q1, q2, q3, q4⟩
            have HT2 := Lib.hid (HTA.out.trans hT2)
            clear hT2
            by_cases hgt : r < r2
            · skip
              go_wp2
              go_roundw
              case rel => exact ⟨r2, m2, j + 1, by omega, rfl, by go_num, HT2.out, q1, q2, by omega, by omega, by omega⟩
              case measure => simp [intOf]; omega
            · skip
              go_wp2
              go_roundw
              case rel => exact ⟨r, m2, j + 1, by omega, rfl, by go_num, HT2.out, q1, by omega, by omega, by omega, by omega⟩
              case measure => simp [intOf]; omega
        · have hk : ts.take j = ts := List.take_of_length_le (by omega)
          rw [hk] at h1 h2
          go_wp2
          go_ret
          exact ⟨r, m1, rfl, HT1.out, hm1, hr, by omega, by omega⟩

theorem Size_any (e : Ex) (p : Option Addr) (c : Nat) (w : World) (hA : Ex.At w p e) : Gives Tryz.prog 19 #[e.val p c] w (.int .i64 (min e.size 101 : Nat)) := by
  have C := Lib.hid (fun W g h1 h2 h3 => show Calls _ _ #[.agg #[.int .i64 e.kind, .int .i64 e.op, sV e.name, .int .i64 e.value, .slice p e.args.length c], _, _] _ _ from measure_any w e.size e (Nat.le_refl _) p c 0 1 g 1 W rfl hA h1 h2 h3 (by omega) (by omega) (by omega))
  unfold Gives Ex.val
  generalize e.kind = k1 at *
  generalize e.op = o1 at *
  generalize e.name = n1 at *
  generalize e.value = v1 at *
  generalize e.args.length = l1 at *
  generalize e.height = g1 at *
  generalize e.size = s1 at *
  clear hA
  have HA2 := Lib.hid (show Ext w ((w.alloc (.cells #[.int .i64 k1, .int .i64 o1, sV n1, .int .i64 v1, .slice p l1 c] 24)).alloc (numO 0)) from ((Below.refl _ w).alloc (Nat.le_refl _) _).alloc (by simp) _)
  go_enter Tryz.func19, Tryz.ntmps19
  go_wp2_with fail
  refine (C.out _ (w.heap.size + 1) HA2.out (by omega) (by have h := alloc_here (w.alloc (.cells #[.int .i64 k1, .int .i64 o1, sV n1, .int .i64 v1, .slice p l1 c] 24)) (numO 0); have e : (w.alloc (.cells #[.int .i64 k1, .int .i64 o1, sV n1, .int .i64 v1, .slice p l1 c] 24)).heap.size = w.heap.size + 1 := by { simp }; rw [e] at h; exact h)).mono ?_
  rintro x w1 ⟨r, m, rfl, hT, h1, h2, h3, h4⟩
  have hc : w1.cell? ⟨w.heap.size + 1, 0, none⟩ = some (.int .i64 (m : Int)) := cell_of hT.here rfl
  have HB := Lib.hid (show Below w.heap.size w w1 from Below.trans HA2.out (hT.below (by omega) (by simp; omega)))
  have HZ := Lib.hid (show ((min s1 101 : Nat) : Int) = (m : Int) by omega)
  clear hT C
  go_wp2
  go_ret
  exact ⟨by rw [HZ.out]; first | rfl | go_num, HB.out⟩

end Go.Proofs.YtgkalcboklhdgaaGreatDoor

namespace Go.Proofs.YtgkalcboklhdgaaGreatDoor
open Go.RowKit
set_option linter.unusedVariables false
set_option linter.unusedSimpArgs false
open Ex

mutual
/-- the first error of a part, in preorder -/
def Ex.fe : Ex → Int
  | .mk k o n v es => if pc' k o n v es.length ≠ 0 then pc' k o n v es.length else Ex.fes es
def Ex.fes : List Ex → Int
  | [] => 0
  | e :: es => if e.fe ≠ 0 then e.fe else Ex.fes es
end
theorem Ex.fes_no (es : List Ex) (j : Nat) (h : j < es.length) (h0 : fes (es.take j) = 0) (h1 : (es[j]).fe ≠ 0) : fes es = (es[j]).fe := by
  induction es generalizing j with
  | nil => simp at h
  | cons e es ih =>
    cases j with
    | zero => simp only [fes, List.getElem_cons_zero] at *; rw [if_pos h1]
    | succ j =>
      have h' : j < es.length := by simpa using h
      rw [List.take_succ_cons, fes] at h0
      by_cases e0 : e.fe = 0
      · rw [if_neg (by simp [e0])] at h0
        rw [fes, if_neg (by simp [e0])]
        simpa using ih j h' h0 (by simpa using h1)
      · rw [if_pos e0] at h0; exact absurd h0 e0
theorem Ex.fes_yes (es : List Ex) (j : Nat) (h : j < es.length) (h0 : fes (es.take j) = 0) (h1 : (es[j]).fe = 0) : fes (es.take (j + 1)) = 0 := by
  induction es generalizing j with
  | nil => simp at h
  | cons e es ih =>
    cases j with
    | zero => simp only [List.getElem_cons_zero] at h1; simp [fes, h1]
    | succ j =>
      have h' : j < es.length := by simpa using h
      rw [List.take_succ_cons, fes] at h0 ⊢
      by_cases e0 : e.fe = 0
      · rw [if_neg (by simp [e0])] at h0 ⊢
        exact ih j h' h0 (by simpa using h1)
      · rw [if_pos e0] at h0; exact absurd h0 e0
/-- why an expression is not valid -/
def Ex.chk (e : Ex) : Int := if 100 < e.size then 4 else if 12 < e.height then 22 else e.fe

set_option maxHeartbeats 1000000 in
theorem parts_any : ∀ (n : Nat) (e : Ex), e.size ≤ n → ∀ (p : Option Addr) (c : Nat) (w : World), Ex.At w p e →
    Gives Tryz.prog 47 #[e.val p c] w (.int .i64 e.fe) := by
  intro n
  induction n with
  | zero => intro e he; have := e.size_pos; omega
  | succ n ih =>
    intro e he p c w hA
    have P1 := Lib.hid (fun W => show Gives _ _ #[.agg #[.int .i64 e.kind, .int .i64 e.op, sV e.name, .int .i64 e.value, .slice p e.args.length c]] _ _ from part_any e p c W hA.fit)
    obtain ⟨k, o, nm, v, ts⟩ := e
    have HA := Lib.hid hA
    have hl : ts.length ≤ 2199023255488 := hA.fit.2.2.2.2
    have HS := Lib.hid (fun j (h : j < ts.length) => size_get ts j h)
    have hN : (Ex.mk k o nm v ts).size = 1 + sizes ts := rfl
    have hv : (Ex.mk k o nm v ts).val p c = .agg #[.int .i64 k, .int .i64 o, sV nm, .int .i64 v, .slice p ts.length c] := rfl
    rw [hv]
    have IH := Lib.hid ih
    clear hA hv ih
    have hh : (Ex.mk k o nm v ts).fe = if pc' k o nm v ts.length ≠ 0 then pc' k o nm v ts.length else fes ts := rfl
    have hpc : pc (Ex.mk k o nm v ts) = pc' k o nm v ts.length := rfl
    rw [hpc] at P1
    simp only [Ex.kind, Ex.op, Ex.name, Ex.value, Ex.args] at P1
    rw [hh]
    clear hh hpc
    have HT := Lib.hid (fes_yes ts)
    have HO := Lib.hid (fes_no ts)
    generalize pc' k o nm v ts.length = x at *
    unfold Gives
    by_cases hx : x = 0
    · subst hx
      have HZ := Lib.hid (show (if (0 : Int) ≠ 0 then 0 else fes ts) = fes ts by simp)
      rw [HZ.out]
      generalize hfs : fes ts = fs at *
      have HF := Lib.hid hfs
      clear hfs HZ
      go_enter Tryz.func47, Tryz.ntmps47
      go_wp2_with fail
      refine (P1.out _).mono ?_
      intro w1 hB1
      have HB1 := Lib.hid hB1
      clear hB1
      go_wp2
      go_loopw [4] (fun i wr => ∃ (j : Nat), j ≤ ts.length ∧ i = .int .i64 (j : Int) ∧ fes (ts.take j) = 0 ∧ Ext (w.alloc (.cells #[.int .i64 k, .int .i64 o, sV nm, .int .i64 v, .slice p ts.length c] 24)) wr) (fun i _ => ts.length - (intOf i).toNat)
      case atStart => exact ⟨0, Nat.zero_le _, rfl, rfl, HB1.out⟩
      case round =>
        obtain ⟨j, hj, rfl, hl0, hE⟩ := hrel
        obtain ⟨b0, b1, b2, b3, b4, hW⟩ := hE.box
        have HE := Lib.hid hE
        clear hE
        have HL := Lib.hid hl0
        clear hl0
        by_cases hlt : j < ts.length
        · obtain ⟨b, off, q, cc, rfl, hcs, hA0⟩ := HA.out.get j hlt
          obtain ⟨c0, c1, c2, c3, c4⟩ := hcs.below hW
          have hA := hA0.below hW
          clear hcs
          have hs := HS.out j hlt
          have C := IH.out (ts[j]) (by omega) q cc wr hA
          unfold Gives at C
          change Calls _ _ #[.agg #[.int .i64 (ts[j]).kind, .int .i64 (ts[j]).op, sV (ts[j]).name, .int .i64 (ts[j]).value, .slice q (ts[j]).args.length cc]] _ _ at C
          have HN := Lib.hid (HO.out j hlt HL.out)
          have HY := Lib.hid (HT.out j hlt HL.out)
          generalize (ts[j]).kind = k1 at *
          generalize (ts[j]).op = o1 at *
          generalize (ts[j]).name = n1 at *
          generalize (ts[j]).value = v1 at *
          generalize (ts[j]).args.length = l1 at *
          generalize (ts[j]).size = s1 at *
          generalize (ts[j]).fe = f1 at *
          clear hA
          by_cases hg : f1 = 0
          · have HY2 := Lib.hid (HY.out hg)
            subst hg
            go_wp2_with fail
            refine C.mono ?_
            rintro e w2 ⟨rfl, hB2⟩
            go_wp2
            go_roundw
            case rel => exact ⟨j + 1, by omega, by go_num, HY2.out, Ext.trans HE.out hB2⟩
            case measure => simp [intOf]; omega
          · have HN2 := Lib.hid (HN.out hg)
            have hga : (f1 == 0) = false := by rw [beq_eq_false_iff_ne]; omega
            have hgb : (f1 != 0) = true := by rw [bne_iff_ne]; omega
            go_wp2_with fail
            refine C.mono ?_
            rintro e w2 ⟨rfl, hB2⟩
            go_wp2
            go_ret
            exact ⟨by rw [HN2.out]; rfl, Ext.trans hW hB2⟩
        · have hk : ts.take j = ts := List.take_of_length_le (by omega)
          rw [hk] at HL
          go_wp2
          go_ret
          exact ⟨by rw [← HF.out, HL.out]; rfl, hW⟩
    · have HZ := Lib.hid (show (if x ≠ 0 then x else fes ts) = x by rw [if_pos hx])
      rw [HZ.out]
      clear HZ
      have hga : (x == 0) = false := by rw [beq_eq_false_iff_ne]; omega
      have hgb : (x != 0) = true := by rw [bne_iff_ne]; omega
      go_enter Tryz.func47, Tryz.ntmps47
      go_wp2_with fail
      refine (P1.out _).mono ?_
      intro w1 hB1
      go_wp2
      go_ret
      exact ⟨rfl, Ext.trans ((Below.refl _ w).alloc (Nat.le_refl _) _) hB1⟩

theorem refChk_any (e : Ex) (p : Option Addr) (c : Nat) (w : World) (hA : Ex.At w p e) : Gives Tryz.prog 18 #[e.val p c] w (.int .i64 e.chk) := by
  have C1 := Lib.hid (fun W (h : Ext w W) => show Gives _ _ #[.agg #[.int .i64 e.kind, .int .i64 e.op, sV e.name, .int .i64 e.value, .slice p e.args.length c]] _ _ from refSize_any e p c W (hA.below h))
  have C2 := Lib.hid (fun W (h : Ext w W) hs => show Gives _ _ #[.agg #[.int .i64 e.kind, .int .i64 e.op, sV e.name, .int .i64 e.value, .slice p e.args.length c]] _ _ from depth_any e.size e (Nat.le_refl _) p c W (hA.below h) hs)
  have C3 := Lib.hid (fun W (h : Ext w W) => show Gives _ _ #[.agg #[.int .i64 e.kind, .int .i64 e.op, sV e.name, .int .i64 e.value, .slice p e.args.length c]] _ _ from parts_any e.size e (Nat.le_refl _) p c W (hA.below h))
  have hh := Lib.hid (show e.chk = if 100 < e.size then 4 else if 12 < e.height then 22 else e.fe from rfl)
  have hle := height_le e
  unfold Ex.val
  generalize e.kind = k1 at *
  generalize e.op = o1 at *
  generalize e.name = n1 at *
  generalize e.value = v1 at *
  generalize e.args.length = l1 at *
  generalize e.size = s1 at *
  generalize e.height = g1 at *
  generalize e.fe = f1 at *
  generalize e.chk = r at *
  clear hA
  unfold Gives
  by_cases h1 : 100 < s1
  · have HZ := Lib.hid (show r = 4 by rw [hh.out, if_pos h1])
    have hm : min s1 101 = 101 := by omega
    rw [hm] at C1
    clear hm hh
    go_enter Tryz.func18, Tryz.ntmps18
    go_wp2_with fail
    refine (C1.out _ ((Below.refl _ w).alloc (Nat.le_refl _) _)).mono ?_
    intro w1 hB
    go_wp2
    go_ret
    exact ⟨by rw [HZ.out]; rfl, Ext.trans ((Below.refl _ w).alloc (Nat.le_refl _) _) hB⟩
  · have hm : min s1 101 = s1 := by omega
    rw [hm] at C1
    clear hm
    by_cases h2 : 12 < g1
    · have HZ := Lib.hid (show r = 22 by rw [hh.out, if_neg h1, if_pos h2])
      clear hh
      go_enter Tryz.func18, Tryz.ntmps18
      go_wp2_with fail
      refine (C1.out _ ((Below.refl _ w).alloc (Nat.le_refl _) _)).mono ?_
      intro w1 hB
      obtain ⟨b0, b1, b2, b3, b4, hW⟩ := Ext.box hB
      have HW := Lib.hid hW
      clear hB C1 hW
      go_wp2_with fail
      refine (C2.out _ HW.out (by omega)).mono ?_
      intro w2 hB
      go_wp2
      go_ret
      exact ⟨by rw [HZ.out]; rfl, Ext.trans HW.out hB⟩
    · have HZ := Lib.hid (show r = f1 by rw [hh.out, if_neg h1, if_neg h2])
      clear hh
      go_enter Tryz.func18, Tryz.ntmps18
      go_wp2_with fail
      refine (C1.out _ ((Below.refl _ w).alloc (Nat.le_refl _) _)).mono ?_
      intro w1 hB
      have HB := Lib.hid hB
      obtain ⟨b0, b1, b2, b3, b4, hW⟩ := Ext.box hB
      have HW := Lib.hid hW
      clear hB C1 hW
      go_wp2_with fail
      refine (C2.out _ HW.out (by omega)).mono ?_
      intro w2 hB
      obtain ⟨b0, b1, b2, b3, b4, hW⟩ := Ext.box (Ext.trans HB.out hB)
      have HW2 := Lib.hid hW
      clear hB C2 hW
      go_wp2_with fail
      refine (C3.out _ HW2.out).mono ?_
      intro w3 hB
      go_wp2
      go_ret
      exact ⟨by rw [HZ.out]; rfl, Ext.trans HW2.out hB⟩

end Go.Proofs.YtgkalcboklhdgaaGreatDoor

namespace Go.Proofs.YtgkalcboklhdgaaGreatDoor
open Go.RowKit
set_option linter.unusedVariables false
set_option linter.unusedSimpArgs false

inductive PEx where
  | mk (k o : Int) (n : List UInt8) (v : Int) (p : Option Addr) (c : Nat) (ts : List PEx)
namespace PEx
mutual
def er : PEx → Ex
  | .mk k o n v _ _ ts => .mk k o n v (ers ts)
def ers : List PEx → List Ex
  | [] => []
  | d :: ds => d.er :: ers ds
end
def ptr : PEx → Option Addr | .mk _ _ _ _ p _ _ => p
def cap : PEx → Nat | .mk _ _ _ _ _ c _ => c
def args : PEx → List PEx | .mk _ _ _ _ _ _ ts => ts
def val (d : PEx) : Value := d.er.val d.ptr d.cap
mutual
/-- the parts in preorder -/
def pre : PEx → List PEx
  | .mk k o n v p c ts => .mk k o n v p c ts :: pres ts
def pres : List PEx → List PEx
  | [] => []
  | d :: ds => d.pre ++ pres ds
end
theorem ers_length (ts : List PEx) : (ers ts).length = ts.length := by
  induction ts with
  | nil => rfl
  | cons d ts ih => simp [ers, ih]
theorem ers_get (ts : List PEx) (j : Nat) (h : j < ts.length) : (ers ts)[j]'(by rw [ers_length]; exact h) = (ts[j]).er := by
  induction ts generalizing j with
  | nil => simp at h
  | cons d ts ih => cases j with
    | zero => simp [ers]
    | succ j => simp only [ers, List.getElem_cons_succ]; exact ih j (by simpa using h)
theorem pres_snoc (ts : List PEx) (d : PEx) : pres (ts ++ [d]) = pres ts ++ d.pre := by
  induction ts with
  | nil => simp [pres]
  | cons x ts ih => simp only [List.cons_append, pres, ih, List.append_assoc]
theorem pres_take (ts : List PEx) (j : Nat) (h : j < ts.length) : pres (ts.take (j + 1)) = pres (ts.take j) ++ (ts[j]).pre := by
  rw [List.take_succ_eq_append_getElem h, pres_snoc]
theorem pres_prefix (ts : List PEx) (j : Nat) : pres (ts.take j) <+: pres ts := by
  induction ts generalizing j with
  | nil => simp
  | cons d ts ih => cases j with
    | zero => simp [pres]
    | succ j => simp only [List.take_succ_cons, pres]; obtain ⟨r, hr⟩ := ih j; exact ⟨r, by rw [List.append_assoc, hr]⟩
mutual
theorem pre_length : ∀ d : PEx, d.pre.length = d.er.size
  | .mk k o n v p c ts => by simp only [pre, er, Ex.size, List.length_cons, pres_length ts]; omega
theorem pres_length : ∀ ts : List PEx, (pres ts).length = Ex.sizes (ers ts)
  | [] => rfl
  | d :: ds => by simp only [pres, ers, Ex.sizes, List.length_append, pre_length d, pres_length ds]
end
mutual
/-- the arguments lie where d says, in blocks below n₀ -/
def PAt (n₀ : Nat) (w : World) : PEx → Prop
  | .mk k o n v p c ts => Ex.fits (.mk k o n v (ers ts)) ∧ PAtL n₀ w p 0 ts
def PAtL (n₀ : Nat) (w : World) (p : Option Addr) (i : Nat) : List PEx → Prop
  | [] => True
  | d :: ds => (∃ b o, p = some ⟨b, o, none⟩ ∧ b < n₀ ∧ Ex.cells w b (o + i * 5) d.er d.ptr d.cap ∧ PAt n₀ w d) ∧ PAtL n₀ w p (i + 1) ds
end
theorem PAt.fit {n₀ : Nat} {w : World} {d : PEx} (h : PAt n₀ w d) : Ex.fits d.er := by cases d; exact h.1
theorem PAtL.get {n₀ : Nat} {w : World} {p : Option Addr} {ts : List PEx} : ∀ {i : Nat}, PAtL n₀ w p i ts → ∀ j (h : j < ts.length), ∃ b o, p = some ⟨b, o, none⟩ ∧ b < n₀ ∧ Ex.cells w b (o + (i + j) * 5) (ts[j]).er (ts[j]).ptr (ts[j]).cap ∧ PAt n₀ w ts[j] := by
  induction ts with
  | nil => intro i h j hj; simp at hj
  | cons d ts ih =>
    intro i h j hj
    obtain ⟨h1, h2⟩ := h
    cases j with
    | zero => exact h1
    | succ j =>
      obtain ⟨b, o, e1, e2, e3, e4⟩ := ih h2 j (by simpa using hj)
      exact ⟨b, o, e1, e2, by rw [show i + (j + 1) = i + 1 + j by omega]; exact e3, e4⟩
theorem cells_low {n₀ : Nat} {w W : World} {b o : Nat} {e : Ex} {p : Option Addr} {c : Nat} (h : Ex.cells w b o e p c) (hb : b < n₀) (hB : Below n₀ w W) : Ex.cells W b o e p c := by
  obtain ⟨h0, h1, h2, h3, h4⟩ := h
  exact ⟨(hB.cell (p := ⟨b, o, none⟩) hb).trans h0, (hB.cell (p := ⟨b, o + 1, none⟩) hb).trans h1, (hB.cell (p := ⟨b, o + 2, none⟩) hb).trans h2, (hB.cell (p := ⟨b, o + 3, none⟩) hb).trans h3, (hB.cell (p := ⟨b, o + 4, none⟩) hb).trans h4⟩
mutual
theorem PAt.low {n₀ : Nat} {w W : World} (hB : Below n₀ w W) : ∀ {d : PEx}, PAt n₀ w d → PAt n₀ W d
  | .mk _ _ _ _ _ _ _, h => ⟨h.1, PAtL.low hB h.2⟩
theorem PAtL.low {n₀ : Nat} {w W : World} (hB : Below n₀ w W) : ∀ {p : Option Addr} {i : Nat} {ts : List PEx}, PAtL n₀ w p i ts → PAtL n₀ W p i ts
  | _, _, [], _ => trivial
  | _, _, _ :: _, ⟨⟨b, o, e1, e2, e3, e4⟩, h2⟩ => ⟨⟨b, o, e1, e2, cells_low e3 e2 hB, PAt.low hB e4⟩, PAtL.low hB h2⟩
end
mutual
theorem of_at {w : World} : ∀ {e : Ex} {p : Option Addr} (c : Nat), Ex.At w p e → ∃ d : PEx, d.er = e ∧ d.ptr = p ∧ d.cap = c ∧ PAt w.heap.size w d
  | .mk k o n v ts, p, c, h => by
    obtain ⟨ds, h1, h2⟩ := of_atL h.2
    exact ⟨.mk k o n v p c ds, by simp [er, h1], rfl, rfl, by simp only [PAt, h1]; exact h.1, h2⟩
theorem of_atL {w : World} : ∀ {ts : List Ex} {p : Option Addr} {i : Nat}, Ex.AtL w p i ts → ∃ ds : List PEx, ers ds = ts ∧ PAtL w.heap.size w p i ds
  | [], _, _, _ => ⟨[], rfl, trivial⟩
  | t :: ts, p, i, ⟨⟨b, o, q, c, e1, e2, e3⟩, h2⟩ => by
    obtain ⟨d, hd1, hd2, hd3, hd4⟩ := of_at c e3
    obtain ⟨ds, hs1, hs2⟩ := of_atL h2
    exact ⟨d :: ds, by simp [ers, hd1, hs1], ⟨b, o, e1, Ex.cell_lt' e2.1, by rw [hd1, hd2, hd3]; exact e2, hd4⟩, hs2⟩
end
/-- the first error among parts -/
def ferr : List PEx → Int
  | [] => 0
  | d :: ds => if pc d.er ≠ 0 then pc d.er else ferr ds
theorem ferr_app (a b : List PEx) : ferr (a ++ b) = if ferr a ≠ 0 then ferr a else ferr b := by
  induction a with
  | nil => simp [ferr]
  | cons d a ih =>
    simp only [List.cons_append, ferr, ih]
    by_cases h : pc d.er = 0 <;> simp [h]
mutual
theorem ferr_pre : ∀ d : PEx, ferr d.pre = d.er.fe
  | .mk k o n v p c ts => by
    simp only [pre, ferr, er, Ex.fe, ferr_pres ts]
    simp only [pc, Ex.kind, Ex.op, Ex.name, Ex.value, Ex.args]
    rfl
theorem ferr_pres : ∀ ts : List PEx, ferr (pres ts) = Ex.fes (ers ts)
  | [] => rfl
  | d :: ds => by simp only [pres, ferr_app, ers, Ex.fes, ferr_pre d, ferr_pres ds]
end
end PEx

end Go.Proofs.YtgkalcboklhdgaaGreatDoor

namespace Go.Proofs.YtgkalcboklhdgaaGreatDoor
open Go.RowKit
set_option linter.unusedVariables false
set_option linter.unusedSimpArgs false
attribute [local go_sem] Oper.semAt_some

/-- blocks of cells of type T stay -/
def KeepT (T : TypeId) (W W' : World) : Prop := W.heap.size ≤ W'.heap.size ∧ ∀ (j : Nat) (c : Array Value) (f : Nat × Nat), W.heap[j]? = some (.cells c T f) → W'.heap[j]? = some (.cells c T f)
theorem KeepT.refl (T : TypeId) (W : World) : KeepT T W W := ⟨Nat.le_refl _, fun _ _ _ h => h⟩
theorem KeepT.trans {T : TypeId} {a b c : World} (h : KeepT T a b) (g : KeepT T b c) : KeepT T a c := ⟨Nat.le_trans h.1 g.1, fun j x f hx => g.2 j x f (h.2 j x f hx)⟩
theorem KeepT.of_ext {T : TypeId} {W W' : World} (h : Ext W W') : KeepT T W W' := ⟨h.size, fun j c f hx => (h.below.block j (lt_of_block hx)).trans hx⟩
/-- what the iterator asks of a round -/
def Kx (n₀ : Nat) (W W' : World) : Prop := Below n₀ W W' ∧ KeepT tEx W W'
theorem Kx.refl (n₀ : Nat) (W : World) : Kx n₀ W W := ⟨Below.refl _ _, KeepT.refl _ _⟩
theorem Kx.trans {n₀ : Nat} {a b c : World} (h : Kx n₀ a b) (g : Kx n₀ b c) : Kx n₀ a c := ⟨h.1.trans g.1, h.2.trans g.2⟩
theorem Kx.of_ext {n₀ : Nat} {W W' : World} (h : Ext W W') (hn : n₀ ≤ W.heap.size) : Kx n₀ W W' := ⟨h.below.mono hn, KeepT.of_ext h⟩
theorem Kx.putObj {n₀ : Nat} {w : World} (hn : n₀ ≤ w.heap.size) (W : World) (l : Nat) (o o' : Obj) (hl : w.heap.size ≤ l) (h : W.heap[l]? = some o) (h1 : o.isCells = false) (h2 : o.isWalk = false) : Kx n₀ W (W.putObj l o') := by
  refine ⟨belowK_b hn W l o o' hl h h1 h2, by simp, fun j c f hx => ?_⟩
  have hne : j ≠ l := by
    rintro rfl
    rw [h] at hx; cases hx; cases h1
  exact (World.putObj_heap_other hne).trans hx
theorem abides_alloc {β : Type} {B : Nat} {J : β → World → Prop} (hJ : AbidesFrom B J) {s : β} {W : World} (o : Obj) (h : J s W) : J s (W.alloc o) := hJ s W _ none h (World.grownBy_alloc W o none) (fun r e => by cases e)
theorem YieldAt.any {F : Fence} (hd : F.depth = none) {m : Nat} (m' : Nat) {P : Program} {l : Nat} {args : Array Value} {W : World} {R : Ending → World → Prop} (h : YieldAt F m P l args W R) : YieldAt F m' P l args W R := by
  obtain ⟨fn, tmps, assign, body, hy, hR⟩ := h
  exact ⟨fn, tmps, assign, body, hy, hR.1, fun c cs _ => hR.2 c cs (fun d h => by rw [hd] at h; cases h)⟩

set_option maxRecDepth 100000 in
set_option maxHeartbeats 4000000 in
theorem visit_in (F : Fence) (hd : F.depth = none) (hv : F.fn 66) (hro : F.round = none) (l n₀ N A : Nat) (J Jx : List PEx → World → Prop) (hJ : AbidesFrom A J)
    (hY : ∀ m pre x W, J pre W → pre.length < N → Ex.fits x.er → YieldAt F m Tryz.prog l #[x.val] W fun e W' =>
      (e = .returned (.bool true) ∧ J (pre ++ [x]) W' ∧ Kx n₀ W W') ∨ (e = .returned (.bool false) ∧ Jx (pre ++ [x]) W')) :
    ∀ (s : Nat) (d : PEx), d.er.size ≤ s → ∀ (n : Nat) (pre : List PEx) (W : World), PEx.PAt n₀ W d → J pre W → n₀ ≤ W.heap.size → pre.length + d.pre.length ≤ N →
      CallsIn F n Tryz.prog 66 #[d.val, .func (.yield l) #[] #[]] W fun e W' =>
        (e = .returned (.bool true) ∧ J (pre ++ d.pre) W' ∧ Kx n₀ W W') ∨ (e = .returned (.bool false) ∧ ∃ q, q <+: d.pre ∧ Jx (pre ++ q) W') := by
  intro s
  induction s with
  | zero => intro d hs; have := d.er.size_pos; omega
  | succ s ih =>
    intro d hs n pre W hP hJ0 hn0 hN
    have hdd : ∀ k : Nat, (F.depth.isSome = true → 1 ≤ k) := fun k h => by rw [hd] at h; cases h
    have hfit := hP.fit
    have hyd := hY (n - 1) pre d
    obtain ⟨k, o, nm, v, p, c, ts⟩ := d
    have hl : ts.length ≤ 2199023255488 := by have := hfit.2.2.2.2; simpa [PEx.er, Ex.args, PEx.ers_length] using this
    have hval : (PEx.mk k o nm v p c ts).val = .agg #[.int .i64 k, .int .i64 o, sV nm, .int .i64 v, .slice p ts.length c] := by
      simp only [PEx.val, PEx.er, PEx.ptr, PEx.cap, Ex.val, Ex.kind, Ex.op, Ex.name, Ex.value, Ex.args, PEx.ers_length]
    rw [hval] at hyd ⊢
    have HP := Lib.hid hP.2
    have HS := Lib.hid (show Ex.sizes (PEx.ers ts) ≤ s by simp only [PEx.er, Ex.size] at hs; omega)
    have HN := Lib.hid hN
    have hJa := abides_alloc hJ (.cells #[.int .i64 k, .int .i64 o, sV nm, .int .i64 v, .slice p ts.length c] 24) hJ0
    have hb0 : (W.alloc (.cells #[.int .i64 k, .int .i64 o, sV nm, .int .i64 v, .slice p ts.length c] 24)).heap[W.heap.size]? = some (.cells #[.int .i64 k, .int .i64 o, sV nm, .int .i64 v, .slice p ts.length c] 24 (0, 0)) := alloc_here _ _
    have HB0 := Lib.hid hb0
    clear hb0
    obtain ⟨fn, tmps, assign, body, hy, hR⟩ := hyd _ hJa (by simp only [PEx.pre, List.length_cons] at hN; omega) hfit
    clear hP hs hN hval hfit hyd hJ0
    refine callsIn_of_wp Tryz.func66 rfl hv ?_ hro
    simp only [Tryz.ntmps66, List.size_toArray, List.length_cons, List.length_nil, Nat.reduceAdd, Nat.reduceSub, Array.replicate_succ, Array.replicate_zero, List.push_toArray, List.append_toArray, List.nil_append, List.cons_append]
    gi_wp2
    refine hR.mono ?_
    clear hR hy
    rintro e W2 (⟨rfl, hJ2, hK2⟩ | ⟨rfl, hJx2⟩)
    · have hb2 : W2.heap[W.heap.size]? = some (.cells #[.int .i64 k, .int .i64 o, sV nm, .int .i64 v, .slice p ts.length c] 24 (0, 0)) := hK2.2.2 _ _ _ HB0.out
      have c4 : W2.cell? ⟨W.heap.size, 4, none⟩ = some (.slice p ts.length c) := cell_of hb2 rfl
      have HK2 := Lib.hid (show Kx n₀ W W2 from (Kx.of_ext ((Below.refl _ W).alloc (Nat.le_refl _) _) hn0).trans hK2)
      have HJ2 := Lib.hid hJ2
      clear hb2 hK2 hJ2 hJa HB0
      gi_wp2
      gi_loopw [14] (fun i wr => ∃ j : Nat, j ≤ ts.length ∧ i = .int .i64 (j : Int) ∧ J (pre ++ (.mk k o nm v p c ts :: PEx.pres (ts.take j))) wr ∧ Kx n₀ W wr) (fun i _ => ts.length - (intOf i).toNat)
      case atStart => exact ⟨0, Nat.zero_le _, rfl, by simpa [PEx.pres] using HJ2.out, HK2.out⟩
      case round =>
        obtain ⟨j, hj, rfl, hJr, hKr⟩ := hrel
        have HKr := Lib.hid hKr
        have HJr := Lib.hid hJr
        by_cases hlt : j < ts.length
        · obtain ⟨b, off, rfl, hb, hcs, hPa⟩ := (PEx.PAtL.low hKr.1 HP.out).get j hlt
          rw [Nat.zero_add] at hcs
          obtain ⟨c0, c1, c2, c3, c4⟩ := hcs
          have hnw : n₀ ≤ wr.heap.size := Nat.le_trans hn0 hKr.2.1
          have hsz : (ts[j]).er.size ≤ s := by
            have h1 := Ex.size_get (PEx.ers ts) j (by rw [PEx.ers_length]; exact hlt)
            rw [PEx.ers_get ts j hlt] at h1
            exact Nat.le_trans h1 HS.out
          have hlen : (pre ++ (PEx.mk k o nm v (some ⟨b, off, none⟩) c ts :: PEx.pres (ts.take j))).length + (ts[j]).pre.length ≤ N := by
            have h1 := HN.out
            have h2 := (PEx.pres_prefix ts (j + 1)).length_le
            rw [PEx.pres_take ts j hlt] at h2
            simp only [PEx.pre, List.length_cons, List.length_append] at h1 h2 ⊢
            omega
          have C := ih (ts[j]) hsz (n - 1) _ (wr.alloc (.cells #[.int .i64 (ts[j]).er.kind, .int .i64 (ts[j]).er.op, sV (ts[j]).er.name, .int .i64 (ts[j]).er.value, .slice (ts[j]).ptr (ts[j]).er.args.length (ts[j]).cap] 24))
            (hPa.low (((Below.refl _ wr).alloc (Nat.le_refl _) _).mono hnw)) (abides_alloc hJ _ hJr) (by simp; omega) hlen
          change CallsIn F (n - 1) _ _ #[.agg #[.int .i64 (ts[j]).er.kind, .int .i64 (ts[j]).er.op, sV (ts[j]).er.name, .int .i64 (ts[j]).er.value, .slice (ts[j]).ptr (ts[j]).er.args.length (ts[j]).cap], _] _ _ at C
          have HT := Lib.hid (PEx.pres_take ts j hlt)
          have HPr := Lib.hid (PEx.pres_prefix ts (j + 1))
          have HK4 := Lib.hid (Kx.of_ext ((Below.refl _ wr).alloc (Nat.le_refl _) (.cells #[.int .i64 (ts[j]).er.kind, .int .i64 (ts[j]).er.op, sV (ts[j]).er.name, .int .i64 (ts[j]).er.value, .slice (ts[j]).ptr (ts[j]).er.args.length (ts[j]).cap] 24)) hnw)
          rw [HT.out] at HPr
          generalize (ts[j]).er.kind = k1 at *
          generalize (ts[j]).er.op = o1 at *
          generalize (ts[j]).er.name = n1 at *
          generalize (ts[j]).er.value = v1 at *
          generalize (ts[j]).er.args.length = l1 at *
          generalize (ts[j]).ptr = q1 at *
          generalize (ts[j]).cap = cc at *
          generalize (ts[j]).pre = P1 at *
          clear hPa hlen hJr hKr HP HJ2 HK2 ih
          gi_wp2_with ((try refine ⟨hdd _, ?_⟩); gi_at_call 66; refine C.mono ?_; clear C; rintro e W3 (⟨rfl, hJ3, hK3⟩ | ⟨rfl, q, hq, hx3⟩))
          · go_roundw
            case rel => exact ⟨j + 1, by omega, by go_num, by rw [HT.out]; simpa [List.append_assoc] using hJ3, HKr.out.trans (HK4.out.trans hK3)⟩
            case measure => simp [intOf]; omega
          · go_ret
            obtain ⟨r, hr⟩ := hq
            obtain ⟨r2, hr2⟩ := HPr.out
            exact .inr ⟨rfl, .mk k o nm v (some ⟨b, off, none⟩) c ts :: (PEx.pres (ts.take j) ++ q), ⟨r ++ r2, by rw [← hr] at hr2; simp only [PEx.pre, ← hr2]; simp [List.append_assoc]⟩, by simpa [List.append_assoc] using hx3⟩
        · have hk : ts.take j = ts := List.take_of_length_le (by omega)
          rw [hk] at HJr
          clear hk hJr hKr
          gi_wp2
          go_ret
          exact .inl ⟨rfl, HJr.out, HKr.out⟩
    · clear hJa
      gi_wp2
      go_ret
      exact .inr ⟨rfl, [.mk k o nm v p c ts], ⟨PEx.pres ts, rfl⟩, hJx2⟩

end Go.Proofs.YtgkalcboklhdgaaGreatDoor

namespace Go.Proofs.YtgkalcboklhdgaaGreatDoor
open Go.RowKit
set_option linter.unusedVariables false
set_option linter.unusedSimpArgs false
attribute [local go_sem] Oper.semAt_some

abbrev Pt := { d : PEx // Ex.fits d.er }
theorem parts1_in (F : Fence) (hd : F.depth = none) (n : Nat) (hp : F.fn 65) (hv : F.fn 66) (hro : F.round = none) (l B n₀ A : Nat) (d : PEx) (J Jx : List PEx → World → Prop) (hJ : AbidesFrom A J)
    (hY : ∀ m pre x W, J pre W → pre.length < d.pre.length → Ex.fits x.er → YieldAt F m Tryz.prog l #[x.val] W fun e W' =>
      (e = .returned (.bool true) ∧ J (pre ++ [x]) W' ∧ Kx n₀ W W') ∨ (e = .returned (.bool false) ∧ Jx (pre ++ [x]) W'))
    (W : World) (hc : W.heap[B]? = some (.cells (exC d.er.kind d.er.op d.er.name d.er.value d.ptr d.er.args.length d.cap) tEx (0, 0))) (hP : PEx.PAt n₀ W d) (hn : n₀ ≤ W.heap.size) (h0 : J [] W) :
    CallsIn F n Tryz.prog 65 #[.func (.yield l) #[] #[], .pointer (some ⟨B, 0, none⟩)] W fun e W' => (∃ v, e = .returned v) ∧ (J d.pre W' ∨ ∃ q, q <+: d.pre ∧ Jx q W') := by
  have hdd : ∀ k : Nat, (F.depth.isSome = true → 1 ≤ k) := fun k h => by rw [hd] at h; cases h
  have C := visit_in F hd hv hro l n₀ d.pre.length A J Jx hJ hY d.er.size d (Nat.le_refl _) (n - 1) [] W hP h0 hn (by simp)
  change CallsIn F (n - 1) _ _ #[.agg #[.int .i64 d.er.kind, .int .i64 d.er.op, sV d.er.name, .int .i64 d.er.value, .slice d.ptr d.er.args.length d.cap], _] _ _ at C
  generalize d.er.kind = k1 at *
  generalize d.er.op = o1 at *
  generalize d.er.name = n1 at *
  generalize d.er.value = v1 at *
  generalize d.er.args.length = l1 at *
  generalize d.ptr = q1 at *
  generalize d.cap = cc at *
  generalize d.pre = P1 at *
  have b0 : W.cell? ⟨B, 0, none⟩ = some (.int .i64 k1) := cell_of hc rfl
  have b1 : W.cell? ⟨B, 1, none⟩ = some (.int .i64 o1) := cell_of hc rfl
  have b2 : W.cell? ⟨B, 2, none⟩ = some (sV n1) := cell_of hc rfl
  have b3 : W.cell? ⟨B, 3, none⟩ = some (.int .i64 v1) := cell_of hc rfl
  have b4 : W.cell? ⟨B, 4, none⟩ = some (.slice q1 l1 cc) := cell_of hc rfl
  clear hc hP hY
  refine callsIn_of_wp Tryz.func65 rfl hp ?_ hro
  simp only [Tryz.ntmps65, List.size_toArray, List.length_cons, List.length_nil, Nat.reduceAdd, Nat.reduceSub, Array.replicate_succ, Array.replicate_zero, List.push_toArray, List.append_toArray, List.nil_append, List.cons_append]
  gi_wp2_with ((try refine ⟨hdd _, ?_⟩); gi_at_call 66; refine C.mono ?_; clear C; rintro e W1 (⟨rfl, hJ1, _⟩ | ⟨rfl, q, hq, hx⟩))
  · go_end0
    exact ⟨⟨_, rfl⟩, .inl (by simpa using hJ1)⟩
  · go_end0
    exact ⟨⟨_, rfl⟩, .inr ⟨q, hq, by simpa using hx⟩⟩

theorem parts_stops (F : Fence) (hd : F.depth = none) (n : Nat) (hp : F.fn 65) (hv : F.fn 66) (hro : F.round = none) (B n₀ : Nat) (d : PEx) (w : World) (hn : n₀ ≤ w.heap.size)
    (hc : w.heap[B]? = some (.cells (exC d.er.kind d.er.op d.er.name d.er.value d.ptr d.er.args.length d.cap) tEx (0, 0))) (hP : PEx.PAt n₀ w d) :
    SeqStopsK F n Tryz.prog 65 #[.pointer (some ⟨B, 0, none⟩)] (fun x : Pt => #[x.1.val]) (Kx n₀) (fun ys => ys.map (·.1) = d.pre) (fun ys => ys.map (·.1) <+: d.pre) d.pre.length w := by
  intro l J Jx W hW hJ hJx hY h0
  have hJ' : AbidesFrom W.heap.size (fun (pre : List PEx) W => ∃ ys : List Pt, ys.map (·.1) = pre ∧ J ys W) := fun s X Y row ⟨ys, h1, h2⟩ hg hr => ⟨ys, h1, hJ ys X Y row h2 hg hr⟩
  have C := parts1_in F hd n hp hv hro l B n₀ W.heap.size d (fun (pre : List PEx) W => ∃ ys : List Pt, ys.map (·.1) = pre ∧ J ys W) (fun (pre : List PEx) W => ∃ ys : List Pt, ys.map (·.1) = pre ∧ Jx ys W) hJ'
    (fun m pre x W1 ⟨ys, h1, h2⟩ hlen hx => YieldAt.any hd m (YieldAt.mono (hY ys ⟨x, hx⟩ W1 h2 (by rw [← h1] at hlen; simpa using hlen)) fun e W' h => h.elim
      (fun ⟨a, b, c⟩ => .inl ⟨a, ⟨ys ++ [⟨x, hx⟩], by simp [h1], b⟩, c⟩) (fun ⟨a, b⟩ => .inr ⟨a, ⟨ys ++ [⟨x, hx⟩], by simp [h1], b⟩⟩)))
    W ((hW.block B (lt_of_block hc)).trans hc) (hP.low (hW.mono hn)) (Nat.le_trans hn hW.size) ⟨[], rfl, h0⟩
  refine C.mono ?_
  rintro e W' ⟨hv', ⟨ys, h1, h2⟩ | ⟨q, hq, ys, h1, h2⟩⟩
  · exact ⟨hv', .inl ⟨ys, h1, h2⟩⟩
  · exact ⟨hv', .inr ⟨ys, by show ys.map (·.1) <+: d.pre; rw [h1]; exact hq, h2⟩⟩

theorem xparts_any (k o : Int) (nm : List UInt8) (v : Int) (p : Option Addr) (m c : Nat) (w : World) : Calls Tryz.prog 37 #[.agg #[.int .i64 k, .int .i64 o, sV nm, .int .i64 v, .slice p m c]] w fun e W =>
    ∃ B, e = .returned (.func (.func 65) #[] #[.pointer (some ⟨B, 0, none⟩)]) ∧ W.heap[B]? = some (.cells (exC k o nm v p m c) tEx (0, 0)) ∧ Ext w W := by
  go_enter Tryz.func37, Tryz.ntmps37
  go_wp2
  go_ret
  exact ⟨_, rfl, alloc_here _ _, (Below.refl _ w).alloc (Nat.le_refl _) _⟩

end Go.Proofs.YtgkalcboklhdgaaGreatDoor

