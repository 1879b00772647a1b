/- Lemmas and walks for the statements of this seat, part 2, merged from smaller texts: What the functions of the operators return.; A region that draws its order, whose operations may make memory: each operation's result is described by a predicate that later growth of the memory keeps.; A region that draws its order, whose operations may make memory and store: each operation's result is described by a predicate on the values of the operations that it waits for, and on the world, which a relation of one's own keeps.; A look-up among the operators.; A part of an expression: the reference's part. Printed by mk_part.py.; A part of an expression: the cases joined. Printed by mk_part2.py. -/
import Derived.Laws.Tables
import Derived.Laws.Rows
import Derived.Test.YtgkalcboklhdgaaGreatDoorPart1

namespace Go.Proofs.YtgkalcboklhdgaaGreatDoor
open Go.RowKit
set_option linter.unusedVariables false
set_option linter.unusedSimpArgs false

def DoesIn (n : FuncId) (args : Array Value) (W : World) (v : Value) : Prop := Calls Tryz.prog n args W fun e w' => e = .returned v ∧ W = w'

theorem number1_do (n : FuncId) (en : ∀ args w, (callFunc n args).run Tryz.prog w = .ok (.enter n args) w) (x y r : Int) (C : Does n #[.int .i64 x, .int .i64 y] (.int .i64 r)) (g : Nat) (W : World)
    (hc : W.cell? ⟨g, 0, none⟩ = some (.func (.func n) #[] #[])) : DoesIn 115 #[.int .i64 x, .int .i64 y, .pointer (some ⟨g, 0, none⟩)] W (.tuple #[.int .i64 r, .int .i64 0]) := by
  unfold DoesIn
  go_enter Tryz.func115, Tryz.ntmps115
  go_wp2_with fail
  refine (C _).mono ?_
  rintro e w' ⟨rfl, rfl⟩
  go_wp2
  go_ret2
  exact ⟨rfl, rfl⟩
theorem divide1_do (n : FuncId) (en : ∀ args w, (callFunc n args).run Tryz.prog w = .ok (.enter n args) w) (x y r : Int) (h0 : y ≠ 0) (C : Does n #[.int .i64 x, .int .i64 y] (.int .i64 r)) (g : Nat) (W : World)
    (hc : W.cell? ⟨g, 0, none⟩ = some (.func (.func n) #[] #[])) : DoesIn 116 #[.int .i64 x, .int .i64 y, .pointer (some ⟨g, 0, none⟩)] W (.tuple #[.int .i64 r, .int .i64 0]) := by
  unfold DoesIn
  have g1 : (y == 0) = false := by simpa using h0
  have g2 : (y != 0) = true := by simpa using h0
  clear h0
  go_enter Tryz.func116, Tryz.ntmps116
  go_wp2_with fail
  refine (C _).mono ?_
  rintro e w' ⟨rfl, rfl⟩
  go_wp2
  go_ret2
  exact ⟨rfl, rfl⟩
theorem divide1_no (x : Int) (g : Nat) (W : World) : DoesIn 116 #[.int .i64 x, .int .i64 0, .pointer (some ⟨g, 0, none⟩)] W (.tuple #[.int .i64 0, .int .i64 24]) := by
  unfold DoesIn
  go_enter Tryz.func116, Tryz.ntmps116
  go_wp2
  go_ret2
  exact ⟨rfl, rfl⟩
theorem truth1_do (n : FuncId) (en : ∀ args w, (callFunc n args).run Tryz.prog w = .ok (.enter n args) w) (x y : Int) (r : Bool) (C : Does n #[.int .i64 x, .int .i64 y] (.bool r)) (g : Nat) (W : World)
    (hc : W.cell? ⟨g, 0, none⟩ = some (.func (.func n) #[] #[])) : DoesIn 117 #[.int .i64 x, .int .i64 y, .pointer (some ⟨g, 0, none⟩)] W (.int .i64 (if r then 1 else 0)) := by
  unfold DoesIn
  cases r
  all_goals
    simp only [if_true, Bool.false_eq_true, if_false]
    go_enter Tryz.func117, Tryz.ntmps117
    go_wp2_with fail
    refine (C _).mono ?_
    rintro e w' ⟨rfl, rfl⟩
    go_wp2
    go_ret
    exact ⟨rfl, rfl⟩
theorem numtruth_do (n : FuncId) (en : ∀ args w, (callFunc n args).run Tryz.prog w = .ok (.enter n args) w) (x y : Int) (r : Bool) (C : Does n #[.int .i64 x, .int .i64 y] (.bool r)) (g h : Nat) (W : World)
    (hc : W.cell? ⟨g, 0, none⟩ = some (.func (.func 117) #[] #[.pointer (some ⟨h, 0, none⟩)])) (hd : W.cell? ⟨h, 0, none⟩ = some (.func (.func n) #[] #[])) :
    DoesIn 115 #[.int .i64 x, .int .i64 y, .pointer (some ⟨g, 0, none⟩)] W (.tuple #[.int .i64 (if r then 1 else 0), .int .i64 0]) := by
  have D := truth1_do n en x y r C h W hd
  have en1 := enters_fn Tryz.func117 (by kernel_rfl) rfl
  unfold DoesIn at D ⊢
  generalize (if r then (1 : Int) else 0) = z at *
  clear hd en C
  go_enter Tryz.func115, Tryz.ntmps115
  go_wp2_with fail
  refine D.mono ?_
  rintro e w' ⟨rfl, rfl⟩
  go_wp2
  go_ret2
  exact ⟨rfl, rfl⟩

/-- a comparison or a connective -/
def truB (k x y : Int) : Bool :=
  if k = 8 then decide (x = y) else if k = 9 then decide (x ≠ y) else if k = 10 then decide (x < y) else if k = 11 then decide (x ≤ y) else if k = 12 then decide (y < x) else if k = 13 then decide (y ≤ x) else
  if k = 14 then decide (x ≠ 0 ∧ y ≠ 0) else decide (x ≠ 0 ∨ y ≠ 0)
/-- what operator k makes of two numbers, and its error -/
def opR (k x y : Int) : Int × Int :=
  if k = 3 then (x + y, 0) else if k = 4 then (x - y, 0) else if k = 5 then (if mulBig x y then (0, 14) else (x * y, 0)) else
  if k = 6 then (if y = 0 then (0, 24) else (x.tdiv y, 0)) else if k = 7 then (if y = 0 then (0, 24) else (x.tmod y, 0)) else (if truB k x y then 1 else 0, 0)

theorem fn_any {k : Int} {fv : Value} {W : World} (h : FnOk W k fv) (x y : Int) (hx : inM x) (hy : inM y) :
    ∃ f cap, fv = .func (.func f) #[] cap ∧ (∀ args w, (callFunc f args).run Tryz.prog w = .ok (.enter f args) w) ∧ ∀ W', Ext W W' → DoesIn f (#[.int .i64 x, .int .i64 y] ++ cap) W' (.tuple #[.int .i64 (opR k x y).1, .int .i64 (opR k x y).2]) := by
  rcases h with ⟨rfl, rfl⟩ | ⟨n, g, h1, rfl, h3⟩ | ⟨n, g, h1, rfl, h3⟩ | ⟨n, g, h, h1, rfl, h3, h4⟩
  · refine ⟨_, _, rfl, enters_fn Tryz.func87 (by kernel_rfl) rfl, fun W' hW => ?_⟩
    have T := times_any x y hx hy W'
    cases hb : mulBig x y
    · rw [hb] at T; simpa [opR, hb, DoesIn] using T
    · rw [hb] at T; simpa [opR, hb, DoesIn] using T
  · refine ⟨_, _, rfl, enters_fn Tryz.func115 (by kernel_rfl) rfl, fun W' hW => ?_⟩
    have hc := (h3.ext hW).cell
    unfold numF at h1
    split at h1
    · rename_i e; subst e; cases h1; exact number1_do _ (enters_fn Tryz.func85 (by kernel_rfl) rfl) x y _ (op1_any x y hx hy) g W' hc
    · split at h1
      · rename_i e; subst e; cases h1; exact number1_do _ (enters_fn Tryz.func86 (by kernel_rfl) rfl) x y _ (op2_any x y hx hy) g W' hc
      · cases h1
  · refine ⟨_, _, rfl, enters_fn Tryz.func116 (by kernel_rfl) rfl, fun W' hW => ?_⟩
    have hc := (h3.ext hW).cell
    unfold divF at h1
    by_cases h0 : y = 0
    · subst h0
      split at h1
      · rename_i e; subst e; cases h1; exact divide1_no x g W'
      · split at h1
        · rename_i e; subst e; cases h1; exact divide1_no x g W'
        · cases h1
    · split at h1
      · rename_i e; subst e; cases h1
        have := divide1_do _ (enters_fn Tryz.func89 (by kernel_rfl) rfl) x y _ h0 (op3_any x y hx hy h0) g W' hc
        simpa [opR, h0] using this
      · split at h1
        · rename_i e; subst e; cases h1
          have := divide1_do _ (enters_fn Tryz.func90 (by kernel_rfl) rfl) x y _ h0 (op4_any x y hx hy h0) g W' hc
          simpa [opR, h0] using this
        · cases h1
  · refine ⟨_, _, rfl, enters_fn Tryz.func115 (by kernel_rfl) rfl, fun W' hW => ?_⟩
    have hc := (h3.ext hW).cell
    have hd := (h4.ext hW).cell
    unfold truF at h1
    split at h1
    · rename_i e; subst e; cases h1; exact numtruth_do _ (enters_fn Tryz.func92 (by kernel_rfl) rfl) x y _ (op5_any x y) g h W' hc hd
    · skip
      split at h1
      · rename_i e; subst e; cases h1; exact numtruth_do _ (enters_fn Tryz.func93 (by kernel_rfl) rfl) x y _ (op6_any x y) g h W' hc hd
      · skip
        split at h1
        · rename_i e; subst e; cases h1; exact numtruth_do _ (enters_fn Tryz.func94 (by kernel_rfl) rfl) x y _ (op7_any x y) g h W' hc hd
        · skip
          split at h1
          · rename_i e; subst e; cases h1; exact numtruth_do _ (enters_fn Tryz.func95 (by kernel_rfl) rfl) x y _ (op8_any x y) g h W' hc hd
          · skip
            split at h1
            · rename_i e; subst e; cases h1; exact numtruth_do _ (enters_fn Tryz.func96 (by kernel_rfl) rfl) x y _ (op9_any x y) g h W' hc hd
            · skip
              split at h1
              · rename_i e; subst e; cases h1; exact numtruth_do _ (enters_fn Tryz.func97 (by kernel_rfl) rfl) x y _ (op10_any x y) g h W' hc hd
              · skip
                split at h1
                · rename_i e; subst e; cases h1; exact numtruth_do _ (enters_fn Tryz.func98 (by kernel_rfl) rfl) x y _ (op11_any x y) g h W' hc hd
                · skip
                  split at h1
                  · rename_i e; subst e; cases h1; exact numtruth_do _ (enters_fn Tryz.func99 (by kernel_rfl) rfl) x y _ (op12_any x y) g h W' hc hd
                  · cases h1

end Go.Proofs.YtgkalcboklhdgaaGreatDoor

namespace Go.Proofs.YtgkalcboklhdgaaGreatDoor
open Go.RowKit
set_option linter.unusedVariables false

theorem getD_false (m j : Nat) : (Array.replicate m false).getD j false = false := by
  rcases Nat.lt_or_ge j m with h | h <;> simp [h]
/-- each edge leads back -/
def backB (l : List Oper) : Bool := l.zipIdx.all fun (o, i) => o.after.toList.all fun e => !Region.binds .any e || decide (e.on < i)
theorem backB_spec {l : List Oper} (h : backB l = true) {i : Nat} {o : Oper} (ho : l[i]? = some o) {e : Edge} (he : e ∈ o.after) (hb : Region.binds .any e = true) : e.on < i := by
  unfold backB at h
  rw [List.all_eq_true] at h
  have h1 := h (o, i) (List.mem_zipIdx_iff_getElem?.2 (by simpa using ho))
  simp only [List.all_eq_true, Bool.or_eq_true, Bool.not_eq_true', decide_eq_true_eq] at h1
  rcases h1 e (by simpa using he) with h2 | h2
  · rw [hb] at h2; cases h2
  · exact h2

/-- no slot is written twice -/
def uniqB (l : List Oper) : Bool := l.zipIdx.all fun (o, i) => l.zipIdx.all fun (p, j) => decide (i = j) || (o.dst.isNone || decide (o.dst ≠ p.dst))
theorem uniqB_spec {l : List Oper} (h : uniqB l = true) {i j : Nat} {o p : Oper} (ho : l[i]? = some o) (hp : l[j]? = some p) {d : Nat} (hd : o.dst = some d) (hd' : p.dst = some d) : i = j := by
  unfold uniqB at h
  rw [List.all_eq_true] at h
  have h1 := h (o, i) (List.mem_zipIdx_iff_getElem?.2 (by simpa using ho))
  rw [List.all_eq_true] at h1
  have h2 := h1 (p, j) (List.mem_zipIdx_iff_getElem?.2 (by simpa using hp))
  simpa [hd, hd'] using h2
/-- what holds at an operation: l the operations, w the world ahead of the region, a the frame ahead of it -/
structure At (l : List Oper) (Φ : Nat → Value → World → Prop) (a : Act) (w : World) (i : Nat) (o : Oper) (a' : Act) (W : World) : Prop where
  ext : Ext w W
  size : a'.tmps.size = a.tmps.size
  defers : a'.defers = a.defers
  /-- a slot that no operation of the region writes, or one that waits for this one -/
  old : ∀ d, (∀ (j : Nat) oj, l[j]? = some oj → oj.dst = some d → ∃ e ∈ oj.after, Region.binds .any e = true ∧ e.on = i) → a'.tmps.getD d undef = a.tmps.getD d undef
  /-- what this one waits for -/
  new : ∀ (j : Nat) oj d, l[j]? = some oj → oj.dst = some d → (∃ e ∈ o.after, Region.binds .any e = true ∧ e.on = j) → Φ j (a'.tmps.getD d undef) W

theorem At.get {l : List Oper} {Φ : Nat → Value → World → Prop} {a : Act} {w : World} {i : Nat} {o : Oper} {a' : Act} {W : World} (h : At l Φ a w i o a' W) (j d : Nat) (h1 : (l[j]?).bind (·.dst) = some d) (h2 : (o.after.toList.any fun e => Region.binds .any e && decide (e.on = j)) = true) : Φ j (a'.eval (.tmp d)) W := by
  obtain ⟨oj, hj, hd⟩ := Option.bind_eq_some_iff.1 h1
  obtain ⟨e, he, hb⟩ := List.any_eq_true.1 h2
  simp only [Bool.and_eq_true, decide_eq_true_eq] at hb
  exact h.new j oj d hj hd ⟨e, by simpa using he, hb.1, hb.2⟩
theorem At.keep {l : List Oper} {Φ : Nat → Value → World → Prop} {a : Act} {w : World} {i : Nat} {o : Oper} {a' : Act} {W : World} (h : At l Φ a w i o a' W) (d : Nat)
    (h1 : (l.all fun oj => decide (oj.dst ≠ some d) || oj.after.toList.any fun e => Region.binds .any e && decide (e.on = i)) = true) : a'.eval (.tmp d) = a.eval (.tmp d) := by
  refine h.old d (fun j oj hj hd => ?_)
  have := List.all_eq_true.1 h1 oj (List.mem_of_getElem? hj)
  simp only [Bool.or_eq_true, decide_eq_true_eq] at this
  rcases this with h2 | h2
  · exact absurd hd h2
  · obtain ⟨e, he, hb⟩ := List.any_eq_true.1 h2
    simp only [Bool.and_eq_true, decide_eq_true_eq] at hb
    exact ⟨e, by simpa using he, hb.1, hb.2⟩

/-- one operation -/
def Goes (P : Program) (l : List Oper) (Φ : Nat → Value → World → Prop) (i : Nat) (o : Oper) (a' : Act) (W : World) (Q : Exit → Act → World → Prop) : Prop :=
  if Region.wanted o (yielded l.toArray a'.tmps) then o.wp P a' W (fun a2 W2 => ∃ v, a2 = a'.put o.dst v ∧ Φ i v W2 ∧ Ext W W2) Q
  else Φ i undef W

structure Inv (l : List Oper) (Φ : Nat → Value → World → Prop) (a : Act) (w : World) (listed : Array Bool) (a' : Act) (W : World) : Prop where
  ext : Ext w W
  lsize : listed.size = l.length
  size : a'.tmps.size = a.tmps.size
  defers : a'.defers = a.defers
  old : ∀ d, (∀ (j : Nat) oj, l[j]? = some oj → oj.dst = some d → listed.getD j false = false) → a'.tmps.getD d undef = a.tmps.getD d undef
  new : ∀ (j : Nat) oj d, l[j]? = some oj → oj.dst = some d → listed.getD j false = true → Φ j (a'.tmps.getD d undef) W
  down : ∀ (j : Nat) oj, l[j]? = some oj → listed.getD j false = true → ∀ e ∈ oj.after, Region.binds .any e = true → listed.getD e.on false = true

theorem count_set (l : List Bool) (i : Nat) (h : l[i]? = some false) : (l.set i true).count false + 1 = l.count false := by
  induction l generalizing i with
  | nil => simp at h
  | cons b l ih =>
    cases i with
    | zero =>
      obtain rfl : b = false := by simpa using h
      simp
    | succ i =>
      have := ih i (by simpa using h)
      simp only [List.set_cons_succ, List.count_cons]
      omega

theorem all_listed {l : List Oper} (hback : backB l = true) {listed : Array Bool} (hs : listed.size = l.length) (h0 : Region.ready .any l.toArray listed = []) : ∀ i, i < l.length → listed.getD i false = true := by
  intro i
  induction i using Nat.strongRecOn with
  | ind i ih =>
    intro hi
    cases hl : listed.getD i false with
    | true => rfl
    | false =>
      exfalso
      have hm : i ∈ Region.ready .any l.toArray listed := by
        rw [mem_ready]
        refine ⟨?_, l[i], by simp [hi], fun e he hb => ?_⟩
        · have : i < listed.size := by omega
          simp only [Array.getD_eq_getD_getElem?, Array.getElem?_eq_getElem this, Option.getD_some] at hl ⊢
          exact hl
        · have := backB_spec hback (i := i) (o := l[i]) (by simp [hi]) he hb
          exact ih e.on this (by omega)
      rw [h0] at hm
      cases hm

theorem put_self {a : Act} {o : Option Tmp} {v : Value} {d : Nat} (h : o = some d) (hd : d < a.tmps.size) : (a.put o v).tmps.getD d undef = v := by
  subst h
  simp [Act.put, Array.getD_eq_getD_getElem?, hd]
theorem put_other {a : Act} {o : Option Tmp} {v : Value} {d : Nat} (h : o ≠ some d) : (a.put o v).tmps.getD d undef = a.tmps.getD d undef := by
  cases o with
  | none => rfl
  | some x =>
    have : x ≠ d := fun e => h (by rw [e])
    simp [Act.put, Array.getD_eq_getD_getElem?, Array.getElem?_setIfInBounds_ne this]
theorem put_size {a : Act} {o : Option Tmp} {v : Value} : (a.put o v).tmps.size = a.tmps.size := by
  cases o <;> simp [Act.put]
theorem put_defers {a : Act} {o : Option Tmp} {v : Value} : (a.put o v).defers = a.defers := by
  cases o <;> simp [Act.put]

theorem wp_region_rel {P : Program} {id : Nat} {Q : Exit → Act → World → Prop} {a : Act} {w : World} {l : List Oper} (hm : P.follows .mixedOrders = true)
    (Φ : Nat → Value → World → Prop) (hst : ∀ i v W W', Φ i v W → Ext W W' → Φ i v W')
    (hback : backB l = true) (hun : uniqB l = true) (hin : ∀ d ∈ l.filterMap (·.dst), d < a.tmps.size)
    (hstep : ∀ (i : Nat) o, l[i]? = some o → ∀ a' W, At l Φ a w i o a' W → Goes P l Φ i o a' W Q)
    (hend : ∀ a' W, Ext w W → a'.tmps.size = a.tmps.size → a'.defers = a.defers → (∀ d, d ∉ l.filterMap (·.dst) → a'.tmps.getD d undef = a.tmps.getD d undef) →
      (∀ (j : Nat) oj d, l[j]? = some oj → oj.dst = some d → Φ j (a'.tmps.getD d undef) W) → Q .normal a' W) :
    (Code.region id l.toArray true).wp P Q a w := by
  refine wp_region_any hm ?_
  have huniq : ∀ (i j : Nat) oi oj d, l[i]? = some oi → l[j]? = some oj → oi.dst = some d → oj.dst = some d → i = j := by
    intro i j oi oj d hi hj di dj
    exact uniqB_spec hun hi hj di dj
  have main : ∀ (fuel : Nat) (listed : Array Bool) (a' : Act) (W : World), listed.toList.count false = fuel → Inv l Φ a w listed a' W → wpAny P .any l.toArray Q fuel listed a' W := by
    intro fuel
    induction fuel with
    | zero =>
      intro listed a' W hc hI
      have hall : ∀ i, i < l.length → listed.getD i false = true := by
        intro i hi
        have hi' : i < listed.size := by rw [hI.lsize]; exact hi
        cases hb : listed.getD i false with
        | true => rfl
        | false =>
          exfalso
          have : false ∈ listed.toList := by
            simp only [Array.getD_eq_getD_getElem?, Array.getElem?_eq_getElem hi', Option.getD_some] at hb
            rw [← hb]; simp
          have := List.count_pos_iff.2 this
          omega
      have hr : Region.ready .any l.toArray listed = [] := by
        apply List.eq_nil_iff_forall_not_mem.2
        intro i hi
        rw [mem_ready] at hi
        obtain ⟨h1, o, ho, _⟩ := hi
        have hi' : i < l.length := by
          have := (Array.getElem?_eq_some_iff.1 ho).1
          simpa using this
        have h2 := hall i hi'
        have hi2 : i < listed.size := by rw [hI.lsize]; exact hi'
        simp only [Array.getD_eq_getD_getElem?, Array.getElem?_eq_getElem hi2, Option.getD_some] at h1 h2
        rw [h1] at h2; cases h2
      exact ⟨hr, hend a' W hI.ext hI.size hI.defers (fun d hd => hI.old d (fun j oj hj hd' => absurd (List.mem_filterMap.2 ⟨oj, List.mem_of_getElem? hj, hd'⟩) hd))
        (fun j oj d hj hd => hI.new j oj d hj hd (hall j (List.getElem?_eq_some_iff.1 hj).1))⟩
    | succ fuel ih =>
      intro listed a' W hc hI
      refine ⟨fun h0 => ?_, fun i hi => ?_⟩
      · have hall := all_listed hback hI.lsize h0
        exact hend a' W hI.ext hI.size hI.defers (fun d hd => hI.old d (fun j oj hj hd' => absurd (List.mem_filterMap.2 ⟨oj, List.mem_of_getElem? hj, hd'⟩) hd))
          (fun j oj d hj hd => hI.new j oj d hj hd (hall j (List.getElem?_eq_some_iff.1 hj).1))
      · obtain ⟨hl0, o, ho, hwait⟩ := mem_ready.1 hi
        have ho' : l[i]? = some o := by simpa using ho
        have hil : i < l.length := (List.getElem?_eq_some_iff.1 ho').1
        have hil' : i < listed.size := by rw [hI.lsize]; exact hil
        have hlf : listed.getD i false = false := by
          simp only [Array.getD_eq_getD_getElem?, Array.getElem?_eq_getElem hil', Option.getD_some] at hl0 ⊢
          exact hl0
        have hAt : At l Φ a w i o a' W := ⟨hI.ext, hI.size, hI.defers,
          fun d hd => hI.old d (fun j oj hj hdj => by
            obtain ⟨e, he, hb, hei⟩ := hd j oj hj hdj
            cases hlj : listed.getD j false with
            | false => rfl
            | true =>
              have := hI.down j oj hj hlj e he hb
              rw [hei, hlf] at this; cases this),
          fun j oj d hj hdj ⟨e, he, hb, hej⟩ => hI.new j oj d hj hdj (by rw [← hej]; exact hwait e he hb)⟩
        have hG := hstep i o ho' a' W hAt
        have hnext : ∀ v W2, Φ i v W2 → Ext W W2 → wpAny P .any l.toArray Q fuel (listed.setIfInBounds i true) (a'.put o.dst v) W2 := by
          intro v W2 hv hE
          refine ih _ _ _ ?_ ?_
          · have := count_set listed.toList i (by simp [hil']; simpa [Array.getD_eq_getD_getElem?, hil'] using hlf)
            rw [Array.toList_setIfInBounds]; omega
          · have hset : ∀ j, j ≠ i → (listed.setIfInBounds i true).getD j false = listed.getD j false := fun j hj => getD_set_ne false (Ne.symm hj)
            refine ⟨hI.ext.trans hE, by simpa using hI.lsize, by rw [put_size]; exact hI.size, by rw [put_defers]; exact hI.defers, ?_, ?_, ?_⟩
            · intro d hd
              have hne : o.dst ≠ some d := fun e => by
                have := hd i o ho' e
                simp [Array.getD_eq_getD_getElem?, hil'] at this
              rw [put_other hne]
              refine hI.old d (fun j oj hj hdj => ?_)
              by_cases hji : j = i
              · subst hji; exact hlf
              · have := hd j oj hj hdj
                rwa [hset j hji] at this
            · intro j oj d hj hdj hlj
              by_cases hji : j = i
              · subst hji
                rw [ho'] at hj; cases hj
                rw [put_self hdj (by rw [hI.size]; exact hin d (List.mem_filterMap.2 ⟨o, List.mem_of_getElem? ho', hdj⟩))]
                exact hv
              · rw [hset j hji] at hlj
                rw [put_other (fun e => hji (huniq j i oj o d hj ho' hdj e))]
                exact hst _ _ _ _ (hI.new j oj d hj hdj hlj) hE
            · intro j oj hj hlj e he hb
              by_cases hji : j = i
              · subst hji
                rw [ho'] at hj; cases hj
                exact getD_set_true (hwait e he hb)
              · rw [hset j hji] at hlj
                exact getD_set_true (hI.down j oj hj hlj e he hb)
        unfold wpOp
        rw [show l.toArray[i]? = some o by simpa using ho']
        unfold Goes at hG
        by_cases hwant : Region.wanted o (yielded l.toArray a'.tmps) = true
        · rw [if_pos hwant] at hG
          simp only [hwant, if_true]
          exact .inl (Oper.wp_mono (fun a2 W2 ⟨v, e, hv, hE⟩ => by rw [e]; exact hnext v W2 hv hE) hG)
        · rw [if_neg hwant] at hG
          simp only [hwant]
          exact hnext undef W hG (Below.refl _ _)
  have h0 := main l.length (Array.replicate l.length false) a { w with drawn := w.drawn + 1 } (by simp)
    ⟨(⟨rfl, rfl, rfl, Nat.le_refl _, fun _ _ => rfl⟩ : Ext w { w with drawn := w.drawn + 1 }), by simp, rfl, rfl, fun _ _ => rfl, (fun j oj d _ _ h => by rw [getD_false] at h; cases h), (fun j oj _ h => by rw [getD_false] at h; cases h)⟩
  simpa using h0

/-- the frame behind the region, its values given -/
def putAll : List Oper → List Value → Act → Act
  | o :: l, v :: vs, a => putAll l vs (a.put o.dst v)
  | _, _, a => a
theorem putAll_size : ∀ (l : List Oper) (vs : List Value) (a : Act), (putAll l vs a).tmps.size = a.tmps.size
  | [], _, _ => rfl
  | _ :: _, [], _ => rfl
  | o :: l, v :: vs, a => by rw [putAll, putAll_size l vs, put_size]
theorem putAll_defers : ∀ (l : List Oper) (vs : List Value) (a : Act), (putAll l vs a).defers = a.defers
  | [], _, _ => rfl
  | _ :: _, [], _ => rfl
  | o :: l, v :: vs, a => by rw [putAll, putAll_defers l vs, put_defers]
theorem putAll_other : ∀ (l : List Oper) (vs : List Value) (a : Act) (d : Nat), (∀ o ∈ l, o.dst ≠ some d) → (putAll l vs a).tmps.getD d undef = a.tmps.getD d undef
  | [], _, _, _, _ => rfl
  | _ :: _, [], _, _, _ => rfl
  | o :: l, v :: vs, a, d, h => by
    rw [putAll, putAll_other l vs _ d (fun o' ho' => h o' (List.mem_cons_of_mem _ ho')), put_other (h o (List.mem_cons_self ..))]
theorem putAll_self : ∀ (l : List Oper) (vs : List Value) (a : Act) (j : Nat) (o : Oper) (d : Nat), vs.length = l.length → l[j]? = some o → o.dst = some d → (∀ (i : Nat) p, l[i]? = some p → p.dst = some d → i = j) → d < a.tmps.size →
    (putAll l vs a).tmps.getD d undef = vs.getD j undef
  | [], _, _, j, _, _, _, h, _, _, _ => by simp at h
  | _ :: _, [], _, _, _, _, hl, _, _, _, _ => by simp at hl
  | o :: l, v :: vs, a, 0, p, d, hl, h, hd, hu, hs => by
    obtain rfl : o = p := by simpa using h
    rw [putAll, putAll_other l vs _ d (fun q hq e => by
      obtain ⟨i, hi⟩ := List.getElem?_of_mem hq
      have := hu (i + 1) q (by simpa using hi) e
      omega), put_self hd hs]
    rfl
  | o :: l, v :: vs, a, j + 1, p, d, hl, h, hd, hu, hs => by
    rw [putAll, putAll_self l vs _ j p d (by simpa using hl) (by simpa using h) hd (fun i q hq e => by
      have := hu (i + 1) q (by simpa using hq) e
      omega) (by rw [put_size]; exact hs)]
    rfl

theorem act_eq {a b : Act} (hs : a.tmps.size = b.tmps.size) (hd : a.defers = b.defers) (h : ∀ d, d < a.tmps.size → a.tmps.getD d undef = b.tmps.getD d undef) : a = b := by
  obtain ⟨ta, da⟩ := a
  obtain ⟨tb, db⟩ := b
  simp only at hs hd h
  have : ta = tb := by
    apply Array.ext hs
    intro i h1 h2
    have := h i h1
    simpa [Array.getD_eq_getD_getElem?, h1, h2] using this
  rw [this, hd]

/-- the theorem, its end with the values named -/
theorem wp_region_vals {P : Program} {id : Nat} {Q : Exit → Act → World → Prop} {a : Act} {w : World} {l : List Oper} (hm : P.follows .mixedOrders = true)
    (Φ : Nat → Value → World → Prop) (hst : ∀ i v W W', Φ i v W → Ext W W' → Φ i v W')
    (hback : backB l = true) (hun : uniqB l = true) (N : Nat) (hN : a.tmps.size = N) (hinB : ((l.filterMap (·.dst)).all fun d => decide (d < N)) = true) (hall : l.all (·.dst.isSome) = true)
    (hstep : ∀ (i : Nat) o, l[i]? = some o → ∀ a' W, At l Φ a w i o a' W → Goes P l Φ i o a' W Q)
    (hend : ∀ (vs : List Value) W, vs.length = l.length → Ext w W → (∀ j, j < l.length → Φ j (vs.getD j undef) W) → Q .normal (putAll l vs a) W) :
    (Code.region id l.toArray true).wp P Q a w := by
  have hin : ∀ d ∈ l.filterMap (·.dst), d < a.tmps.size := fun d hd => by rw [hN]; exact of_decide_eq_true (List.all_eq_true.1 hinB d hd)
  refine wp_region_rel hm Φ hst hback hun hin hstep ?_
  intro a' W hE hs hd hold hnew
  have hsome : ∀ (j : Nat) o, l[j]? = some o → ∃ d, o.dst = some d := fun j o ho => by
    have := (List.all_eq_true.1 hall) o (List.mem_of_getElem? ho)
    exact Option.isSome_iff_exists.1 this
  have e : a' = putAll l (l.map fun o => a'.tmps.getD (o.dst.getD 0) undef) a := by
    refine act_eq (by rw [putAll_size]; exact hs) (by rw [putAll_defers]; exact hd) ?_
    intro d hlt
    by_cases hm : d ∈ l.filterMap (·.dst)
    · obtain ⟨o, ho, hod⟩ := List.mem_filterMap.1 hm
      obtain ⟨j, hj⟩ := List.getElem?_of_mem ho
      rw [putAll_self l _ a j o d (by simp) hj hod (fun i p hp e => uniqB_spec hun hp hj e hod) (by rw [← hs]; exact hlt)]
      rw [List.getD_eq_getElem?_getD, List.getElem?_map, hj]
      simp [hod]
    · rw [putAll_other l _ a d (fun o ho e => hm (List.mem_filterMap.2 ⟨o, ho, e⟩))]
      exact hold d hm
  rw [e]
  refine hend _ W (by simp) hE (fun j hj => ?_)
  obtain ⟨d, hdd⟩ := hsome j l[j] (by simp [hj])
  have := hnew j l[j] d (by simp [hj]) hdd
  rw [List.getD_eq_getElem?_getD, List.getElem?_map]
  simpa [hj, hdd] using this

theorem Goes.value {P : Program} {l : List Oper} {Φ : Nat → Value → World → Prop} {i : Nat} {o : Oper} {a' : Act} {W W' : World} {Q : Exit → Act → World → Prop} (v : Value) (hg : o.guard = none) (hrun : (execOp a'.eval o).run P W = .ok (.value v) W') (hΦ : Φ i v W') (hE : Ext W W') : Goes P l Φ i o a' W Q := by
  unfold Goes
  rw [if_pos (by simp [Region.wanted, hg])]
  unfold Oper.wp
  rw [hrun]
  exact ⟨v, rfl, hΦ, hE⟩
theorem Goes.move {P : Program} {l : List Oper} {Φ : Nat → Value → World → Prop} {i : Nat} {o : Oper} {a' : Act} {W : World} {Q : Exit → Act → World → Prop} (x : Operand) (hg : o.guard = none) (hop : o.op = .move x) (hΦ : Φ i (a'.eval x) W) : Goes P l Φ i o a' W Q :=
  Goes.value _ hg (BigFrame.run_move x hop _) hΦ (Below.refl _ _)
theorem Goes.call {P : Program} {l : List Oper} {Φ : Nat → Value → World → Prop} {i : Nat} {o : Oper} {a' : Act} {W : World} {Q : Exit → Act → World → Prop} (f : FuncId) (args : Array Value) (v : Value) (hg : o.guard = none) (hrun : (execOp a'.eval o).run P W = .ok (.enter f args) W) (hc : Gives P f args W v) (hΦ : ∀ W', Ext W W' → Φ i v W') : Goes P l Φ i o a' W Q := by
  unfold Goes
  rw [if_pos (by simp [Region.wanted, hg])]
  unfold Oper.wp
  rw [hrun]
  exact hc.mono fun W' hb => ⟨v, rfl, hΦ W' hb, hb⟩

end Go.Proofs.YtgkalcboklhdgaaGreatDoor

namespace Go.Proofs.YtgkalcboklhdgaaGreatDoor
open Go.RowKit
set_option linter.unusedVariables false

/-- operation j waits for operation i, within n steps -/
def ancB (l : List Oper) : Nat → Nat → Nat → Bool
  | 0, _, _ => false
  | n + 1, j, i => match l[j]? with
    | none => false
    | some o => o.after.toList.any fun e => Region.binds .any e && (decide (e.on = i) || ancB l n e.on i)
/-- the values that the operations have yielded -/
def sv (l : List Oper) (a : Act) (j : Nat) : Value := match (l[j]?).bind (·.dst) with | none => undef | some d => a.tmps.getD d undef
theorem sv_dst {l : List Oper} {a : Act} {j d : Nat} (h : (l[j]?).bind (·.dst) = some d) : sv l a j = a.eval (.tmp d) := by
  unfold sv; rw [h]; rfl

structure AtG (l : List Oper) (R : World → World → Prop) (Φ : Nat → (Nat → Value) → World → Prop) (a : Act) (w : World) (i : Nat) (o : Oper) (a' : Act) (W : World) : Prop where
  rel : R w W
  size : a'.tmps.size = a.tmps.size
  defers : a'.defers = a.defers
  old : ∀ d, (∀ (j : Nat) oj, l[j]? = some oj → oj.dst = some d → ancB l l.length j i = true) → a'.tmps.getD d undef = a.tmps.getD d undef
  new : ∀ j, j < l.length → ancB l l.length i j = true → Φ j (sv l a') W

theorem AtG.keep {l : List Oper} {R : World → World → Prop} {Φ : Nat → (Nat → Value) → World → Prop} {a : Act} {w : World} {i : Nat} {o : Oper} {a' : Act} {W : World} (h : AtG l R Φ a w i o a' W) (d : Nat)
    (h1 : (l.zipIdx.all fun (oj, j) => decide (oj.dst ≠ some d) || ancB l l.length j i) = true) : a'.eval (.tmp d) = a.eval (.tmp d) := by
  refine h.old d (fun j oj hj hd => ?_)
  have := List.all_eq_true.1 h1 (oj, j) (List.mem_zipIdx_iff_getElem?.2 (by simpa using hj))
  simp only [Bool.or_eq_true, decide_eq_true_eq] at this
  rcases this with h2 | h2
  · exact absurd hd h2
  · exact h2

/-- one operation -/
def GoesG (P : Program) (l : List Oper) (R : World → World → Prop) (Φ : Nat → (Nat → Value) → World → Prop) (i : Nat) (o : Oper) (a' : Act) (W : World) (Q : Exit → Act → World → Prop) : Prop :=
  if Region.wanted o (yielded l.toArray a'.tmps) then
    o.wp P a' W (fun a2 W2 => ∃ v, a2 = a'.put o.dst v ∧ R W W2 ∧ ∀ s : Nat → Value, (o.dst.isSome = true → s i = v) → (∀ k, k ≠ i → ancB l l.length i k = true → s k = sv l a' k) → Φ i s W2) Q
  else R W W ∧ ∀ s : Nat → Value, (o.dst.isSome = true → s i = undef) → (∀ k, k ≠ i → ancB l l.length i k = true → s k = sv l a' k) → Φ i s W

theorem anc_back {l : List Oper} (hb : backB l = true) : ∀ n j i, ancB l n j i = true → i < j
  | 0, _, _, h => by simp [ancB] at h
  | n + 1, j, i, h => by
    unfold ancB at h
    split at h
    · cases h
    · rename_i o ho
      obtain ⟨e, he, hh⟩ := List.any_eq_true.1 h
      simp only [Bool.and_eq_true, Bool.or_eq_true, decide_eq_true_eq] at hh
      have h1 := backB_spec hb ho (by simpa using he) hh.1
      rcases hh.2 with h2 | h2
      · omega
      · have := anc_back hb n e.on i h2; omega

/-- the operations that are listed are closed under what they wait for -/
def downC (l : List Oper) (listed : Array Bool) : Prop := ∀ (j : Nat) oj, l[j]? = some oj → listed.getD j false = true → ∀ e ∈ oj.after, Region.binds .any e = true → listed.getD e.on false = true
theorem downC.anc {l : List Oper} {listed : Array Bool} (h : downC l listed) : ∀ n j i, listed.getD j false = true → ancB l n j i = true → listed.getD i false = true
  | 0, _, _, _, h => by simp [ancB] at h
  | n + 1, j, i, hj, ha => by
    unfold ancB at ha
    split at ha
    · cases ha
    · rename_i o ho
      obtain ⟨e, he, hh⟩ := List.any_eq_true.1 ha
      simp only [Bool.and_eq_true, Bool.or_eq_true, decide_eq_true_eq] at hh
      have h1 := h j o ho hj e (by simpa using he) hh.1
      rcases hh.2 with h2 | h2
      · rw [← h2]; exact h1
      · exact downC.anc h n e.on i h1 h2

/-- what an operation's predicate reads: itself, and what it waits for -/
def readsB (l : List Oper) (D : Nat → List Nat) : Bool := (List.range l.length).all fun j => (D j).all fun k => decide (k = j) || ancB l l.length j k

structure InvG (l : List Oper) (R : World → World → Prop) (Φ : Nat → (Nat → Value) → World → Prop) (a : Act) (w : World) (listed : Array Bool) (a' : Act) (W : World) : Prop where
  rel : R w W
  lsize : listed.size = l.length
  size : a'.tmps.size = a.tmps.size
  defers : a'.defers = a.defers
  old : ∀ d, (∀ (j : Nat) oj, l[j]? = some oj → oj.dst = some d → listed.getD j false = false) → a'.tmps.getD d undef = a.tmps.getD d undef
  new : ∀ j, j < l.length → listed.getD j false = true → Φ j (sv l a') W
  down : downC l listed

theorem sv_put_self {l : List Oper} {a : Act} {i : Nat} {o : Oper} {v : Value} (ho : l[i]? = some o) (hin : ∀ d ∈ l.filterMap (·.dst), d < a.tmps.size) (hd : o.dst.isSome = true) : sv l (a.put o.dst v) i = v := by
  obtain ⟨d, hd⟩ := Option.isSome_iff_exists.1 hd
  unfold sv
  rw [ho]
  simp only [Option.bind_some, hd]
  exact put_self (o := some d) rfl (hin d (List.mem_filterMap.2 ⟨o, List.mem_of_getElem? ho, hd⟩))
theorem sv_put_other {l : List Oper} {a : Act} {i j : Nat} {o : Oper} {v : Value} (hun : uniqB l = true) (ho : l[i]? = some o) (hji : j ≠ i) : sv l (a.put o.dst v) j = sv l a j := by
  unfold sv
  split
  · rfl
  · rename_i d hd
    obtain ⟨oj, hj, hdj⟩ := Option.bind_eq_some_iff.1 hd
    exact put_other (fun e => hji (uniqB_spec hun hj ho hdj e))

theorem wp_region_gen {P : Program} {id : Nat} {Q : Exit → Act → World → Prop} {a : Act} {w : World} {l : List Oper} (hm : P.follows .mixedOrders = true)
    (R : World → World → Prop) (hR0 : ∀ W : World, R W { W with drawn := W.drawn + 1 }) (hRt : ∀ {A B C}, R A B → R B C → R A C)
    (Φ : Nat → (Nat → Value) → World → Prop) (D : Nat → List Nat) (hst : ∀ j s s' W W', Φ j s W → (∀ k ∈ D j, s' k = s k) → R W W' → Φ j s' W')
    (hback : backB l = true) (hun : uniqB l = true) (hreads : readsB l D = true) (hin : ∀ d ∈ l.filterMap (·.dst), d < a.tmps.size)
    (hstep : ∀ (i : Nat) o, l[i]? = some o → ∀ a' W, AtG l R Φ a w i o a' W → GoesG P l R Φ i o a' W Q)
    (hend : ∀ a' W, R w W → a'.tmps.size = a.tmps.size → a'.defers = a.defers → (∀ d, d ∉ l.filterMap (·.dst) → a'.tmps.getD d undef = a.tmps.getD d undef) →
      (∀ j, j < l.length → Φ j (sv l a') W) → Q .normal a' W) :
    (Code.region id l.toArray true).wp P Q a w := by
  refine wp_region_any hm ?_
  have main : ∀ (fuel : Nat) (listed : Array Bool) (a' : Act) (W : World), listed.toList.count false = fuel → InvG l R Φ a w listed a' W → wpAny P .any l.toArray Q fuel listed a' W := by
    intro fuel
    induction fuel with
    | zero =>
      intro listed a' W hc hI
      have hall : ∀ i, i < l.length → listed.getD i false = true := by
        intro i hi
        have hi' : i < listed.size := by rw [hI.lsize]; exact hi
        cases hb : listed.getD i false with
        | true => rfl
        | false =>
          exfalso
          have : false ∈ listed.toList := by
            simp only [Array.getD_eq_getD_getElem?, Array.getElem?_eq_getElem hi', Option.getD_some] at hb
            rw [← hb]; simp
          have := List.count_pos_iff.2 this
          omega
      have hr : Region.ready .any l.toArray listed = [] := by
        apply List.eq_nil_iff_forall_not_mem.2
        intro i hi
        rw [mem_ready] at hi
        obtain ⟨h1, o, ho, _⟩ := hi
        have hi' : i < l.length := by
          have := (Array.getElem?_eq_some_iff.1 ho).1
          simpa using this
        have h2 := hall i hi'
        have hi2 : i < listed.size := by rw [hI.lsize]; exact hi'
        simp only [Array.getD_eq_getD_getElem?, Array.getElem?_eq_getElem hi2, Option.getD_some] at h1 h2
        rw [h1] at h2; cases h2
      exact ⟨hr, hend a' W hI.rel hI.size hI.defers (fun d hd => hI.old d (fun j oj hj hd' => absurd (List.mem_filterMap.2 ⟨oj, List.mem_of_getElem? hj, hd'⟩) hd)) (fun j hj => hI.new j hj (hall j hj))⟩
    | succ fuel ih =>
      intro listed a' W hc hI
      refine ⟨fun h0 => ?_, fun i hi => ?_⟩
      · have hall := all_listed hback hI.lsize h0
        exact hend a' W hI.rel hI.size hI.defers (fun d hd => hI.old d (fun j oj hj hd' => absurd (List.mem_filterMap.2 ⟨oj, List.mem_of_getElem? hj, hd'⟩) hd)) (fun j hj => hI.new j hj (hall j hj))
      · obtain ⟨hl0, o, ho, hwait⟩ := mem_ready.1 hi
        have ho' : l[i]? = some o := by simpa using ho
        have hil : i < l.length := (List.getElem?_eq_some_iff.1 ho').1
        have hil' : i < listed.size := by rw [hI.lsize]; exact hil
        have hlf : listed.getD i false = false := by
          simp only [Array.getD_eq_getD_getElem?, Array.getElem?_eq_getElem hil', Option.getD_some] at hl0 ⊢
          exact hl0
        have hanc : ∀ n k, ancB l n i k = true → listed.getD k false = true := by
          intro n k hk
          cases n with
          | zero => simp [ancB] at hk
          | succ n =>
            unfold ancB at hk
            rw [ho'] at hk
            obtain ⟨e, he, hh⟩ := List.any_eq_true.1 hk
            simp only [Bool.and_eq_true, Bool.or_eq_true, decide_eq_true_eq] at hh
            have h1 := hwait e (by simpa using he) hh.1
            rcases hh.2 with h2 | h2
            · rw [← h2]; exact h1
            · exact hI.down.anc n e.on k h1 h2
        have hAt : AtG l R Φ a w i o a' W := ⟨hI.rel, hI.size, hI.defers,
          fun d hd => hI.old d (fun j oj hj hdj => by
            have hji := hd j oj hj hdj
            cases hlj : listed.getD j false with
            | false => rfl
            | true =>
              have := hI.down.anc _ j i hlj hji
              rw [hlf] at this; cases this),
          fun j hj ha => hI.new j hj (hanc _ j ha)⟩
        have hG := hstep i o ho' a' W hAt
        have hnext : ∀ v W2, R W W2 → (∀ s : Nat → Value, (o.dst.isSome = true → s i = v) → (∀ k, k ≠ i → ancB l l.length i k = true → s k = sv l a' k) → Φ i s W2) → wpAny P .any l.toArray Q fuel (listed.setIfInBounds i true) (a'.put o.dst v) W2 := by
          intro v W2 hR hv
          have hin' : ∀ d ∈ l.filterMap (·.dst), d < a'.tmps.size := fun d hd => by rw [hI.size]; exact hin d hd
          refine ih _ _ _ ?_ ?_
          · have := count_set listed.toList i (by simp [hil']; simpa [Array.getD_eq_getD_getElem?, hil'] using hlf)
            rw [Array.toList_setIfInBounds]; omega
          · have hset : ∀ j, j ≠ i → (listed.setIfInBounds i true).getD j false = listed.getD j false := fun j hj => getD_set_ne false (Ne.symm hj)
            refine ⟨hRt hI.rel hR, by simpa using hI.lsize, by rw [put_size]; exact hI.size, by rw [put_defers]; exact hI.defers, ?_, ?_, ?_⟩
            · intro d hd
              have hne : o.dst ≠ some d := fun e => by
                have := hd i o ho' e
                simp [Array.getD_eq_getD_getElem?, hil'] at this
              rw [put_other hne]
              refine hI.old d (fun j oj hj hdj => ?_)
              by_cases hji : j = i
              · subst hji; exact hlf
              · have := hd j oj hj hdj
                rwa [hset j hji] at this
            · intro j hj hlj
              by_cases hji : j = i
              · subst hji
                exact hv _ (fun hd => sv_put_self ho' hin' hd) (fun k hk _ => sv_put_other hun ho' hk)
              · rw [hset j hji] at hlj
                refine hst j _ _ _ _ (hI.new j hj hlj) (fun k hk => sv_put_other hun ho' ?_) hR
                rintro rfl
                have h1 := List.all_eq_true.1 (List.all_eq_true.1 hreads j (List.mem_range.2 hj)) k hk
                simp only [Bool.or_eq_true, decide_eq_true_eq] at h1
                rcases h1 with h1 | h1
                · exact hji h1.symm
                · have := hI.down.anc _ j k hlj h1
                  rw [hlf] at this; cases this
            · intro j oj hj hlj e he hb
              by_cases hji : j = i
              · subst hji
                rw [ho'] at hj; cases hj
                exact getD_set_true (hwait e he hb)
              · rw [hset j hji] at hlj
                exact getD_set_true (hI.down j oj hj hlj e he hb)
        unfold wpOp
        rw [show l.toArray[i]? = some o by simpa using ho']
        unfold GoesG at hG
        by_cases hwant : Region.wanted o (yielded l.toArray a'.tmps) = true
        · rw [if_pos hwant] at hG
          simp only [hwant, if_true]
          exact .inl (Oper.wp_mono (fun a2 W2 ⟨v, e, hR, hv⟩ => by rw [e]; exact hnext v W2 hR hv) hG)
        · rw [if_neg hwant] at hG
          simp only [hwant]
          exact hnext undef W hG.1 hG.2
  have h0 := main l.length (Array.replicate l.length false) a { w with drawn := w.drawn + 1 } (by simp)
    ⟨hR0 w, by simp, rfl, rfl, fun _ _ => rfl, (fun j _ h => by rw [getD_false] at h; cases h), (fun j oj _ h => by rw [getD_false] at h; cases h)⟩
  simpa using h0

theorem putAll_val {l : List Oper} {a : Act} {vs : List Value} (hun : uniqB l = true) (hlen : vs.length = l.length) (hin : ∀ d ∈ l.filterMap (·.dst), d < a.tmps.size) (j : Nat) (o : Oper) (hj : l[j]? = some o) (hd : o.dst.isSome = true) : sv l (putAll l vs a) j = vs.getD j undef := by
  obtain ⟨d, hd⟩ := Option.isSome_iff_exists.1 hd
  unfold sv
  rw [hj]
  simp only [Option.bind_some, hd]
  exact putAll_self l vs a j o d hlen hj hd (fun i p hp e => uniqB_spec hun hp hj e hd) (hin d (List.mem_filterMap.2 ⟨o, List.mem_of_getElem? hj, hd⟩))

/-- the theorem, its end with the values named -/
theorem wp_region_g {P : Program} {id : Nat} {Q : Exit → Act → World → Prop} {a : Act} {w : World} {l : List Oper} (hm : P.follows .mixedOrders = true)
    (R : World → World → Prop) (hR0 : ∀ W : World, R W { W with drawn := W.drawn + 1 }) (hRt : ∀ {A B C}, R A B → R B C → R A C)
    (Φ : Nat → (Nat → Value) → World → Prop) (D : Nat → List Nat) (hst : ∀ j s s' W W', Φ j s W → (∀ k ∈ D j, s' k = s k) → R W W' → Φ j s' W')
    (hback : backB l = true) (hun : uniqB l = true) (hreads : readsB l D = true) (N : Nat) (hN : a.tmps.size = N) (hinB : ((l.filterMap (·.dst)).all fun d => decide (d < N)) = true)
    (hstep : ∀ (i : Nat) o, l[i]? = some o → ∀ a' W, AtG l R Φ a w i o a' W → GoesG P l R Φ i o a' W Q)
    (hend : ∀ (vs : List Value) W, vs.length = l.length → R w W → (∀ j, j < l.length → Φ j (fun k => vs.getD k undef) W) → Q .normal (putAll l vs a) W) :
    (Code.region id l.toArray true).wp P Q a w := by
  have hin : ∀ d ∈ l.filterMap (·.dst), d < a.tmps.size := fun d hd => by rw [hN]; exact of_decide_eq_true (List.all_eq_true.1 hinB d hd)
  refine wp_region_gen hm R hR0 hRt Φ D hst hback hun hreads hin hstep ?_
  intro a' W hE hs hd hold hnew
  have e : a' = putAll l (l.map fun o => match o.dst with | none => undef | some d => a'.tmps.getD d undef) a := by
    refine act_eq (by rw [putAll_size]; exact hs) (by rw [putAll_defers]; exact hd) ?_
    intro d hlt
    by_cases hm : d ∈ l.filterMap (·.dst)
    · obtain ⟨o, ho, hod⟩ := List.mem_filterMap.1 hm
      obtain ⟨j, hj⟩ := List.getElem?_of_mem ho
      rw [putAll_self l _ a j o d (by simp) hj hod (fun i p hp e => uniqB_spec hun hp hj e hod) (by rw [← hs]; exact hlt)]
      rw [List.getD_eq_getElem?_getD, List.getElem?_map, hj]
      simp [hod]
    · rw [putAll_other l _ a d (fun o ho e => hm (List.mem_filterMap.2 ⟨o, ho, e⟩))]
      exact hold d hm
  have hsv : (fun k => (l.map fun o => match o.dst with | none => undef | some d => a'.tmps.getD d undef).getD k undef) = sv l a' := by
    funext k
    unfold sv
    rw [List.getD_eq_getElem?_getD, List.getElem?_map]
    cases hk : l[k]? with
    | none => rfl
    | some o => cases hod : o.dst <;> simp [hod]
  rw [e]
  refine hend _ W (by simp) hE (fun j hj => ?_)
  rw [hsv]
  exact hnew j hj

/-- an operation that yields a value -/
theorem GoesG.value {P : Program} {l : List Oper} {R : World → World → Prop} {Φ : Nat → (Nat → Value) → World → Prop} {i : Nat} {o : Oper} {a' : Act} {W W' : World} {Q : Exit → Act → World → Prop} (v : Value) (hg : o.guard = none) (hrun : (execOp a'.eval o).run P W = .ok (.value v) W') (hR : R W W')
    (hΦ : ∀ s : Nat → Value, (o.dst.isSome = true → s i = v) → (∀ k, k ≠ i → ancB l l.length i k = true → s k = sv l a' k) → Φ i s W') : GoesG P l R Φ i o a' W Q := by
  unfold GoesG
  rw [if_pos (by simp [Region.wanted, hg])]
  unfold Oper.wp
  rw [hrun]
  exact ⟨v, rfl, hR, hΦ⟩
theorem GoesG.skip {P : Program} {l : List Oper} {R : World → World → Prop} {Φ : Nat → (Nat → Value) → World → Prop} {i : Nat} {o : Oper} {a' : Act} {W W' : World} {Q : Exit → Act → World → Prop} (hg : o.guard = none) (hrun : (execOp a'.eval o).run P W = .ok .skip W') (hR : R W W')
    (hΦ : ∀ s : Nat → Value, (o.dst.isSome = true → s i = undef) → (∀ k, k ≠ i → ancB l l.length i k = true → s k = sv l a' k) → Φ i s W') : GoesG P l R Φ i o a' W Q := by
  unfold GoesG
  rw [if_pos (by simp [Region.wanted, hg])]
  unfold Oper.wp
  rw [hrun]
  exact ⟨undef, rfl, hR, hΦ⟩
theorem GoesG.move {P : Program} {l : List Oper} {R : World → World → Prop} {Φ : Nat → (Nat → Value) → World → Prop} {i : Nat} {o : Oper} {a' : Act} {W : World} {Q : Exit → Act → World → Prop} (x : Operand) (hg : o.guard = none) (hop : o.op = .move x) (hR : R W W)
    (hΦ : ∀ s : Nat → Value, (o.dst.isSome = true → s i = a'.eval x) → (∀ k, k ≠ i → ancB l l.length i k = true → s k = sv l a' k) → Φ i s W) : GoesG P l R Φ i o a' W Q :=
  GoesG.value _ hg (BigFrame.run_move x hop _) hR hΦ
theorem GoesG.assign {P : Program} {l : List Oper} {R : World → World → Prop} {Φ : Nat → (Nat → Value) → World → Prop} {i : Nat} {o : Oper} {a' : Act} {W : World} {Q : Exit → Act → World → Prop} (x : Operand) (hg : o.guard = none) (hop : o.op = .assign x) (hR : R W W)
    (hΦ : ∀ s : Nat → Value, (o.dst.isSome = true → s i = a'.eval x) → (∀ k, k ≠ i → ancB l l.length i k = true → s k = sv l a' k) → Φ i s W) : GoesG P l R Φ i o a' W Q :=
  GoesG.value _ hg (BigFrame.run_assign x hop _) hR hΦ
theorem GoesG.call {P : Program} {l : List Oper} {R : World → World → Prop} {Φ : Nat → (Nat → Value) → World → Prop} {i : Nat} {o : Oper} {a' : Act} {W : World} {Q : Exit → Act → World → Prop} (f : FuncId) (args : Array Value) (hg : o.guard = none) (hrun : (execOp a'.eval o).run P W = .ok (.enter f args) W)
    (hc : Calls P f args W fun e W' => ∃ v, e = .returned v ∧ R W W' ∧ ∀ s : Nat → Value, (o.dst.isSome = true → s i = v) → (∀ k, k ≠ i → ancB l l.length i k = true → s k = sv l a' k) → Φ i s W') : GoesG P l R Φ i o a' W Q := by
  unfold GoesG
  rw [if_pos (by simp [Region.wanted, hg])]
  unfold Oper.wp
  rw [hrun]
  exact hc.mono fun e W' ⟨v, he, hR, hΦ⟩ => by subst he; exact ⟨v, rfl, hR, hΦ⟩

/-- blocks from B on of cells of type T may turn, to such cells as F holds of; the others stay; memory grows -/
structure Grow (B : Nat) (T : TypeId) (F : Array Value → Prop) (W W' : World) : Prop where
  os : W'.os = W.os
  tape : W'.tape = W.tape
  output : W'.output = W.output
  size : W.heap.size ≤ W'.heap.size
  block : ∀ j, j < W.heap.size → W'.heap[j]? = W.heap[j]? ∨ (B ≤ j ∧ ∃ c c' f, W.heap[j]? = some (.cells c T f) ∧ W'.heap[j]? = some (.cells c' T f) ∧ c'.size = c.size ∧ F c')
theorem Grow.refl (B : Nat) (T : TypeId) (F : Array Value → Prop) (W : World) : Grow B T F W W := ⟨rfl, rfl, rfl, Nat.le_refl _, fun _ _ => .inl rfl⟩
theorem Grow.drawn (B : Nat) (T : TypeId) (F : Array Value → Prop) (W : World) : Grow B T F W { W with drawn := W.drawn + 1 } := ⟨rfl, rfl, rfl, Nat.le_refl _, fun _ _ => .inl rfl⟩
theorem Grow.trans {B : Nat} {T : TypeId} {F : Array Value → Prop} {a b c : World} (h : Grow B T F a b) (g : Grow B T F b c) : Grow B T F a c := by
  refine ⟨g.os.trans h.os, g.tape.trans h.tape, g.output.trans h.output, Nat.le_trans h.size g.size, fun j hj => ?_⟩
  have hj' : j < b.heap.size := Nat.lt_of_lt_of_le hj h.size
  rcases h.block j hj with h1 | ⟨hB, x, y, f, h1, h2, h3, h4⟩
  · rcases g.block j hj' with g1 | ⟨hB, x', y', f', g1, g2, g3, g4⟩
    · exact .inl (g1.trans h1)
    · exact .inr ⟨hB, x', y', f', h1 ▸ g1, g2, g3, g4⟩
  · rcases g.block j hj' with g1 | ⟨hB, x', y', f', g1, g2, g3, g4⟩
    · exact .inr ⟨hB, x, y, f, h1, g1.trans h2, h3, h4⟩
    · rw [h2] at g1
      cases g1
      exact .inr ⟨hB, x, y', f, h1, g2, g3.trans h3, g4⟩
theorem Grow.of_ext {B : Nat} {T : TypeId} {F : Array Value → Prop} {W W' : World} (h : Ext W W') : Grow B T F W W' := ⟨h.os, h.tape, h.output, h.size, fun j hj => .inl (h.below.block j hj)⟩
theorem Grow.ext {T : TypeId} {F : Array Value → Prop} {w W : World} (h : Grow w.heap.size T F w W) : Ext w W :=
  ⟨h.os, h.tape, h.output, h.size, fun j hj => by
    rcases h.block j hj with h1 | ⟨hB, _⟩
    · exact h1
    · omega⟩
theorem Grow.row {B : Nat} {T : TypeId} {F : Array Value → Prop} {W : World} {g : Nat} {c c' : Array Value} {f : Nat × Nat} (h : W.heap[g]? = some (.cells c T f)) (hB : B ≤ g) (hs : c'.size = c.size) (hF : F c') : Grow B T F W (W.setRow g c') := by
  refine ⟨rfl, rfl, rfl, by simp [World.setRow], fun j hj => ?_⟩
  by_cases e : j = g
  · subst e
    exact .inr ⟨hB, c, c', f, h, setRow_heap W j c c' T f h, hs, hF⟩
  · refine .inl ?_
    simp only [World.setRow, Array.getElem?_modify, if_neg (Ne.symm e)]
/-- a block that is no cells of type T stays -/
theorem Grow.keep {B : Nat} {T : TypeId} {F : Array Value → Prop} {W W' : World} (h : Grow B T F W W') {j : Nat} {o : Obj} (ho : W.heap[j]? = some o) (hn : ∀ c f, o ≠ .cells c T f) : W'.heap[j]? = some o := by
  rcases h.block j (lt_of_block ho) with h1 | ⟨_, x, y, f, h1, _⟩
  · rw [h1]; exact ho
  · rw [ho] at h1; cases h1; exact absurd rfl (hn _ _)
/-- a block below B stays -/
theorem Grow.low {B : Nat} {T : TypeId} {F : Array Value → Prop} {W W' : World} (h : Grow B T F W W') {j : Nat} (hj : j < B) (hw : j < W.heap.size) : W'.heap[j]? = W.heap[j]? := by
  rcases h.block j hw with h1 | ⟨hB, _⟩
  · exact h1
  · omega
/-- a block of cells of type T stays one, of the same size -/
theorem Grow.turn {B : Nat} {T : TypeId} {F : Array Value → Prop} {W W' : World} (h : Grow B T F W W') {j : Nat} {c : Array Value} {f : Nat × Nat} (ho : W.heap[j]? = some (.cells c T f)) : ∃ c', W'.heap[j]? = some (.cells c' T f) ∧ c'.size = c.size := by
  rcases h.block j (lt_of_block ho) with h1 | ⟨_, x, y, f', h1, h2, h3, _⟩
  · exact ⟨c, h1.trans ho, rfl⟩
  · rw [ho] at h1; cases h1; exact ⟨y, h2, h3⟩
/-- a block of which F holds stays one -/
theorem Grow.done {B : Nat} {T : TypeId} {F : Array Value → Prop} {W W' : World} (h : Grow B T F W W') {j : Nat} {c : Array Value} {f : Nat × Nat} (ho : W.heap[j]? = some (.cells c T f)) (hF : F c) : ∃ c', W'.heap[j]? = some (.cells c' T f) ∧ F c' := by
  rcases h.block j (lt_of_block ho) with h1 | ⟨_, x, y, f', h1, h2, _, h4⟩
  · exact ⟨c, h1.trans ho, hF⟩
  · rw [ho] at h1; cases h1; exact ⟨y, h2, h4⟩

/-- a store of a whole row -/
theorem GoesG.store {P : Program} {l : List Oper} {R : World → World → Prop} {Φ : Nat → (Nat → Value) → World → Prop} {i : Nat} {o : Oper} {a' : Act} {W : World} {Q : Exit → Act → World → Prop} (hg : o.guard = none) (ty : TypeId) (x y : Operand) (ho : o.op = .store ty x y)
    (g : Nat) (cells : Array Value) (hx : a'.eval x = .pointer (some ⟨g, 0, none⟩)) (hy : a'.eval y = .agg cells) (t : TypeId) (old : Array Value) (hh : W.heap[g]? = some (.cells old t (0, 0))) (hi : (P.info? ty).map (·.size) = some cells.size)
    (hold : old.size = cells.size) (h1 : cells.all (·.oneCell') = true) (hd : o.dst = none) (hR : R W (W.setRow g cells))
    (hΦ : ∀ s : Nat → Value, (∀ k, k ≠ i → ancB l l.length i k = true → s k = sv l a' k) → Φ i s (W.setRow g cells)) : GoesG P l R Φ i o a' W Q := by
  unfold GoesG
  rw [if_pos (by simp [Region.wanted, hg])]
  exact wp_store_row ty x y ho g cells hx hy t old hh hi hold h1 ⟨undef, rfl, hR, fun s _ h2 => hΦ s h2⟩

end Go.Proofs.YtgkalcboklhdgaaGreatDoor

namespace Go.Proofs.YtgkalcboklhdgaaGreatDoor
open Go.RowKit
set_option linter.unusedVariables false
set_option linter.unusedSimpArgs false

/-- operator k -/
def opOf (k : Int) : Entry := (opL.find? (fun e => e.k == k)).getD ⟨k, [], 0, 0, 0⟩
def knownB (k : Int) : Bool := decide (3 ≤ k ∧ k ≤ 15)
def opZero : Value := .agg #[sV [], .int .i64 0, .int .i64 0, .int .i64 0, .nilFunc]
theorem thirteen {α : Type} (fs : List α) (h : fs.length = 13) : ∃ f3 f4 f5 f6 f7 f8 f9 f10 f11 f12 f13 f14 f15, fs = [f3, f4, f5, f6, f7, f8, f9, f10, f11, f12, f13, f14, f15] := by
  match fs, h with
  | [f3, f4, f5, f6, f7, f8, f9, f10, f11, f12, f13, f14, f15], _ => exact ⟨f3, f4, f5, f6, f7, f8, f9, f10, f11, f12, f13, f14, f15, rfl⟩
theorem zeroOp (w : World) : (zeroValue 86).run Tryz.prog w = .ok opZero w := by kernel_rfl
theorem ops_find {W : World} {b : Nat} (h : OpsAt W b opL) : ∃ l, MapAt W b l ∧ (∀ k, knownB k = true → ∃ fv, (l.find? (fun p => p.1 == k)).map (·.2) = some ((opOf k).val fv) ∧ FnOk W k fv) ∧ (∀ k, knownB k = false → (l.find? (fun p => p.1 == k)).map (·.2) = none) := by
  obtain ⟨fs, h1, h2, h3⟩ := h
  refine ⟨_, h2, ?_, ?_⟩
  · intro k hk
    obtain ⟨f3, f4, f5, f6, f7, f8, f9, f10, f11, f12, f13, f14, f15, rfl⟩ := thirteen fs h1
    have hk' : 3 ≤ k ∧ k ≤ 15 := by simpa [knownB] using hk
    have hk2 : k = 3 ∨ k = 4 ∨ k = 5 ∨ k = 6 ∨ k = 7 ∨ k = 8 ∨ k = 9 ∨ k = 10 ∨ k = 11 ∨ k = 12 ∨ k = 13 ∨ k = 14 ∨ k = 15 := by omega
    rcases hk2 with rfl | rfl | rfl | rfl | rfl | rfl | rfl | rfl | rfl | rfl | rfl | rfl | rfl
    · exact ⟨f3, rfl, h3 0 (by decide) (by simp)⟩
    · exact ⟨f4, rfl, h3 1 (by decide) (by simp)⟩
    · exact ⟨f5, rfl, h3 2 (by decide) (by simp)⟩
    · exact ⟨f6, rfl, h3 3 (by decide) (by simp)⟩
    · exact ⟨f7, rfl, h3 4 (by decide) (by simp)⟩
    · exact ⟨f8, rfl, h3 5 (by decide) (by simp)⟩
    · exact ⟨f9, rfl, h3 6 (by decide) (by simp)⟩
    · exact ⟨f10, rfl, h3 7 (by decide) (by simp)⟩
    · exact ⟨f11, rfl, h3 8 (by decide) (by simp)⟩
    · exact ⟨f12, rfl, h3 9 (by decide) (by simp)⟩
    · exact ⟨f13, rfl, h3 10 (by decide) (by simp)⟩
    · exact ⟨f14, rfl, h3 11 (by decide) (by simp)⟩
    · exact ⟨f15, rfl, h3 12 (by decide) (by simp)⟩
  · intro k hk
    have hk' : ¬ (3 ≤ k ∧ k ≤ 15) := by simpa [knownB] using hk
    have hn : (List.zipWith (fun (e : Entry) fv => (e.k, e.val fv)) opL fs).find? (fun p => p.1 == k) = none := by
      rw [List.find?_eq_none]
      intro p hp
      obtain ⟨i, hi, rfl⟩ := List.mem_iff_getElem.1 hp
      have hi2 : i < opL.length := by simp at hi; omega
      have he : opL[i].k = (i : Int) + 3 := by
        have : ∀ j : Fin 13, (opL[j.1]'(show j.1 < opL.length from j.2)).k = (j.1 : Int) + 3 := by decide
        exact this ⟨i, hi2⟩
      have hi3 : i < 13 := hi2
      simp [he]
      omega
    rw [hn]; rfl
/-- a look-up of a known operator -/
theorem ops_yes {W : World} {b : Nat} (h : OpsAt W b opL) (k : Int) (hk : knownB k = true) : ∃ fv, FnOk W k fv ∧ ∀ c, (Instr.lookup 87 (.map (some b)) (.int .i64 k) c).run Tryz.prog W = .ok (if c then .tuple #[(opOf k).val fv, .bool true] else (opOf k).val fv) W := by
  obtain ⟨l, ⟨es, cl, hb, hl⟩, h1, _⟩ := ops_find h
  obtain ⟨fv, hf, ho⟩ := h1 k hk
  refine ⟨fv, ho, fun c => ?_⟩
  rw [run_lookup_int Tryz.underlying87 Tryz.underlying3 hb hl opZero (zeroOp W) k c, hf]
  rfl
theorem ops_no {W : World} {b : Nat} (h : OpsAt W b opL) (k : Int) (hk : knownB k = false) : ∀ c, (Instr.lookup 87 (.map (some b)) (.int .i64 k) c).run Tryz.prog W = .ok (if c then .tuple #[opZero, .bool false] else opZero) W := by
  obtain ⟨l, ⟨es, cl, hb, hl⟩, _, h2⟩ := ops_find h
  intro c
  rw [run_lookup_int Tryz.underlying87 Tryz.underlying3 hb hl opZero (zeroOp W) k c, h2 k hk]
  rfl
/-- the map stays where blocks of other types turn -/
theorem OpsAt.grow {w W : World} {b : Nat} {L : List Entry} {B : Nat} {T : TypeId} {F : Array Value → Prop} (h : OpsAt w b L) (hG : Grow B T F w W) (h1 : T ≠ tNum) (h2 : T ≠ tTru) : OpsAt W b L := by
  obtain ⟨fs, h3, ⟨es, c, h4, h5⟩, h6⟩ := h
  refine ⟨fs, h3, ⟨es, c, hG.keep h4 (by intro _ _ e; cases e), h5⟩, fun i hi hi' => (h6 i hi hi').keep (fun g v t ht ho => hG.keep ho ?_)⟩
  intro c f e
  cases e
  rcases ht with h | h
  · exact h1 h
  · exact h2 h
theorem FnOk.grow {w W : World} {k : Int} {fv : Value} {B : Nat} {T : TypeId} {F : Array Value → Prop} (h : FnOk w k fv) (hG : Grow B T F w W) (h1 : T ≠ tNum) (h2 : T ≠ tTru) : FnOk W k fv :=
  h.keep (fun g v t ht ho => hG.keep ho (by
    intro c f e
    cases e
    rcases ht with h | h
    · exact h1 h
    · exact h2 h))

end Go.Proofs.YtgkalcboklhdgaaGreatDoor

namespace Go.Proofs.YtgkalcboklhdgaaGreatDoor
open Go.RowKit
set_option linter.unusedVariables false
set_option linter.unusedSimpArgs false
open Ex

def arity (k : Int) : Nat := if k = 3 then 1 else if k = 4 then 2 else 0
/-- why a part alone is not valid -/
def pc' (k o : Int) (n : List UInt8) (v : Int) (m : Nat) : Int :=
  if k < 1 ∨ 4 < k then 8
  else if (k ≠ 1 ∧ v ≠ 0) ∨ (k ≠ 2 ∧ n ≠ []) ∨ (k ≤ 2 ∧ o ≠ 0) ∨ m ≠ arity k then 1
  else if v < 0 ∨ 1099511627776 < v then 2
  else if k = 2 ∧ isNm n = false then 5
  else if (k = 3 ∧ o ≠ 1 ∧ o ≠ 2) ∨ (k = 4 ∧ (o < 3 ∨ 15 < o)) then 8
  else 0
def pc (e : Ex) : Int := pc' e.kind e.op e.name e.value e.args.length

set_option maxRecDepth 100000 in
set_option maxHeartbeats 4000000 in
theorem part_K1a (k o : Int) (n : List UInt8) (v : Int) (p : Option Addr) (m c : Nat) (w : World) (hn0 : n.length ≤ 140737488355328) (hm0 : m ≤ 2199023255488) (hn : ¬ n = []) :
    Gives Tryz.prog 73 #[.agg #[.int .i64 1, .int .i64 o, sV n, .int .i64 v, .slice p m c]] w (.int .i64 1) := by
  unfold Gives
  have hn1 : n.isEmpty = false := by simpa using hn
  go_enter Tryz.func73, Tryz.ntmps73
  go_wp2
  go_quiet (fail)
  go_wp2
  go_ret
  exact ⟨rfl, Ext.drewN' ((Below.refl _ w).alloc (Nat.le_refl _) _)⟩

set_option maxRecDepth 100000 in
set_option maxHeartbeats 4000000 in
theorem part_K1b (k o : Int) (n : List UInt8) (v : Int) (p : Option Addr) (m c : Nat) (w : World) (hn0 : n.length ≤ 140737488355328) (hm0 : m ≤ 2199023255488) (ho : o ≠ 0) :
    Gives Tryz.prog 73 #[.agg #[.int .i64 1, .int .i64 o, sV [], .int .i64 v, .slice p m c]] w (.int .i64 1) := by
  unfold Gives
  have hoa : ((o : Int) == 0) = false := by rw [beq_eq_false_iff_ne]; omega
  have hob : ((o : Int) != 0) = true := by rw [bne_iff_ne]; omega
  go_enter Tryz.func73, Tryz.ntmps73
  go_wp2
  go_quiet (fail)
  go_wp2
  go_ret
  exact ⟨rfl, Ext.drewN' ((Below.refl _ w).alloc (Nat.le_refl _) _)⟩

set_option maxRecDepth 100000 in
set_option maxHeartbeats 4000000 in
theorem part_K1c (k o : Int) (n : List UInt8) (v : Int) (p : Option Addr) (m c : Nat) (w : World) (hn0 : n.length ≤ 140737488355328) (hm0 : m ≤ 2199023255488) (hm : m ≠ 0) :
    Gives Tryz.prog 73 #[.agg #[.int .i64 1, .int .i64 0, sV [], .int .i64 v, .slice p m c]] w (.int .i64 1) := by
  unfold Gives
  have hma : ((m : Int) == 0) = false := by rw [beq_eq_false_iff_ne]; omega
  have hmb : ((m : Int) != 0) = true := by rw [bne_iff_ne]; omega
  go_enter Tryz.func73, Tryz.ntmps73
  go_wp2
  go_quiet (fail)
  go_wp2
  go_ret
  exact ⟨rfl, Ext.drewN' ((Below.refl _ w).alloc (Nat.le_refl _) _)⟩

set_option maxRecDepth 100000 in
set_option maxHeartbeats 4000000 in
theorem part_K1d (k o : Int) (n : List UInt8) (v : Int) (p : Option Addr) (m c : Nat) (w : World) (hn0 : n.length ≤ 140737488355328) (hm0 : m ≤ 2199023255488) (hv : v < 0) :
    Gives Tryz.prog 73 #[.agg #[.int .i64 1, .int .i64 0, sV [], .int .i64 v, .slice p 0 c]] w (.int .i64 2) := by
  unfold Gives
  go_enter Tryz.func73, Tryz.ntmps73
  go_wp2
  go_quiet (fail)
  go_wp2
  go_ret
  exact ⟨rfl, Ext.drewN' ((Below.refl _ w).alloc (Nat.le_refl _) _)⟩

set_option maxRecDepth 100000 in
set_option maxHeartbeats 4000000 in
theorem part_K1e (k o : Int) (n : List UInt8) (v : Int) (p : Option Addr) (m c : Nat) (w : World) (hn0 : n.length ≤ 140737488355328) (hm0 : m ≤ 2199023255488) (hv : 1099511627776 < v) :
    Gives Tryz.prog 73 #[.agg #[.int .i64 1, .int .i64 0, sV [], .int .i64 v, .slice p 0 c]] w (.int .i64 2) := by
  unfold Gives
  have hv0 : ¬ v < 0 := by omega
  go_enter Tryz.func73, Tryz.ntmps73
  go_wp2
  go_quiet (fail)
  go_wp2
  go_ret
  exact ⟨rfl, Ext.drewN' ((Below.refl _ w).alloc (Nat.le_refl _) _)⟩

set_option maxRecDepth 100000 in
set_option maxHeartbeats 4000000 in
theorem part_K1f (k o : Int) (n : List UInt8) (v : Int) (p : Option Addr) (m c : Nat) (w : World) (hn0 : n.length ≤ 140737488355328) (hm0 : m ≤ 2199023255488) (hv : ¬ v < 0) (hw : ¬ 1099511627776 < v) :
    Gives Tryz.prog 73 #[.agg #[.int .i64 1, .int .i64 0, sV [], .int .i64 v, .slice p 0 c]] w (.int .i64 0) := by
  unfold Gives
  go_enter Tryz.func73, Tryz.ntmps73
  go_wp2
  go_quiet (fail)
  go_wp2
  go_ret
  exact ⟨rfl, Ext.drewN' ((Below.refl _ w).alloc (Nat.le_refl _) _)⟩

set_option maxRecDepth 100000 in
set_option maxHeartbeats 4000000 in
theorem part_K2a (k o : Int) (n : List UInt8) (v : Int) (p : Option Addr) (m c : Nat) (w : World) (hn0 : n.length ≤ 140737488355328) (hm0 : m ≤ 2199023255488) (hv : v ≠ 0) :
    Gives Tryz.prog 73 #[.agg #[.int .i64 2, .int .i64 o, sV n, .int .i64 v, .slice p m c]] w (.int .i64 1) := by
  unfold Gives
  have hva : ((v : Int) == 0) = false := by rw [beq_eq_false_iff_ne]; omega
  have hvb : ((v : Int) != 0) = true := by rw [bne_iff_ne]; omega
  go_enter Tryz.func73, Tryz.ntmps73
  go_wp2
  go_quiet (fail)
  go_wp2
  go_ret
  exact ⟨rfl, Ext.drewN' ((Below.refl _ w).alloc (Nat.le_refl _) _)⟩

set_option maxRecDepth 100000 in
set_option maxHeartbeats 4000000 in
theorem part_K2b (k o : Int) (n : List UInt8) (v : Int) (p : Option Addr) (m c : Nat) (w : World) (hn0 : n.length ≤ 140737488355328) (hm0 : m ≤ 2199023255488) (ho : o ≠ 0) :
    Gives Tryz.prog 73 #[.agg #[.int .i64 2, .int .i64 o, sV n, .int .i64 0, .slice p m c]] w (.int .i64 1) := by
  unfold Gives
  have hoa : ((o : Int) == 0) = false := by rw [beq_eq_false_iff_ne]; omega
  have hob : ((o : Int) != 0) = true := by rw [bne_iff_ne]; omega
  go_enter Tryz.func73, Tryz.ntmps73
  go_wp2
  go_quiet (fail)
  go_wp2
  go_ret
  exact ⟨rfl, Ext.drewN' ((Below.refl _ w).alloc (Nat.le_refl _) _)⟩

set_option maxRecDepth 100000 in
set_option maxHeartbeats 4000000 in
theorem part_K2c (k o : Int) (n : List UInt8) (v : Int) (p : Option Addr) (m c : Nat) (w : World) (hn0 : n.length ≤ 140737488355328) (hm0 : m ≤ 2199023255488) (hm : m ≠ 0) :
    Gives Tryz.prog 73 #[.agg #[.int .i64 2, .int .i64 0, sV n, .int .i64 0, .slice p m c]] w (.int .i64 1) := by
  unfold Gives
  have hma : ((m : Int) == 0) = false := by rw [beq_eq_false_iff_ne]; omega
  have hmb : ((m : Int) != 0) = true := by rw [bne_iff_ne]; omega
  go_enter Tryz.func73, Tryz.ntmps73
  go_wp2
  go_quiet (fail)
  go_wp2
  go_ret
  exact ⟨rfl, Ext.drewN' ((Below.refl _ w).alloc (Nat.le_refl _) _)⟩

set_option maxRecDepth 100000 in
set_option maxHeartbeats 4000000 in
theorem part_K2d (k o : Int) (n : List UInt8) (v : Int) (p : Option Addr) (m c : Nat) (w : World) (hn0 : n.length ≤ 140737488355328) (hm0 : m ≤ 2199023255488) (hq : isNm n = false) :
    Gives Tryz.prog 73 #[.agg #[.int .i64 2, .int .i64 0, sV n, .int .i64 0, .slice p 0 c]] w (.int .i64 5) := by
  unfold Gives
  have L := Lib.hid (fun W => IsName_any n W)
  rw [hq] at L
  go_enter Tryz.func73, Tryz.ntmps73
  go_wp2
  go_quiet (fail)
  go_wp2_with fail
  refine (L.out _).mono ?_
  intro w2 hB
  obtain ⟨b0, b1, b2, b3, b4, hW⟩ := Ext.box (Ext.undrewN hB)
  clear hB
  have HW := Lib.hid hW
  clear hW
  go_wp2
  go_ret
  exact ⟨rfl, HW.out⟩

set_option maxRecDepth 100000 in
set_option maxHeartbeats 4000000 in
theorem part_K2e (k o : Int) (n : List UInt8) (v : Int) (p : Option Addr) (m c : Nat) (w : World) (hn0 : n.length ≤ 140737488355328) (hm0 : m ≤ 2199023255488) (hq : isNm n = true) :
    Gives Tryz.prog 73 #[.agg #[.int .i64 2, .int .i64 0, sV n, .int .i64 0, .slice p 0 c]] w (.int .i64 0) := by
  unfold Gives
  have L := Lib.hid (fun W => IsName_any n W)
  rw [hq] at L
  go_enter Tryz.func73, Tryz.ntmps73
  go_wp2
  go_quiet (fail)
  go_wp2_with fail
  refine (L.out _).mono ?_
  intro w2 hB
  obtain ⟨b0, b1, b2, b3, b4, hW⟩ := Ext.box (Ext.undrewN hB)
  clear hB
  have HW := Lib.hid hW
  clear hW
  go_wp2
  go_ret
  exact ⟨rfl, HW.out⟩

set_option maxRecDepth 100000 in
set_option maxHeartbeats 4000000 in
theorem part_K3a (k o : Int) (n : List UInt8) (v : Int) (p : Option Addr) (m c : Nat) (w : World) (hn0 : n.length ≤ 140737488355328) (hm0 : m ≤ 2199023255488) (hv : v ≠ 0) :
    Gives Tryz.prog 73 #[.agg #[.int .i64 3, .int .i64 o, sV n, .int .i64 v, .slice p m c]] w (.int .i64 1) := by
  unfold Gives
  have hva : ((v : Int) == 0) = false := by rw [beq_eq_false_iff_ne]; omega
  have hvb : ((v : Int) != 0) = true := by rw [bne_iff_ne]; omega
  go_enter Tryz.func73, Tryz.ntmps73
  go_wp2
  go_quiet (fail)
  go_wp2
  go_ret
  exact ⟨rfl, Ext.drewN' ((Below.refl _ w).alloc (Nat.le_refl _) _)⟩

set_option maxRecDepth 100000 in
set_option maxHeartbeats 4000000 in
theorem part_K3b (k o : Int) (n : List UInt8) (v : Int) (p : Option Addr) (m c : Nat) (w : World) (hn0 : n.length ≤ 140737488355328) (hm0 : m ≤ 2199023255488) (hn : ¬ n = []) :
    Gives Tryz.prog 73 #[.agg #[.int .i64 3, .int .i64 o, sV n, .int .i64 0, .slice p m c]] w (.int .i64 1) := by
  unfold Gives
  have hn1 : n.isEmpty = false := by simpa using hn
  go_enter Tryz.func73, Tryz.ntmps73
  go_wp2
  go_quiet (fail)
  go_wp2
  go_ret
  exact ⟨rfl, Ext.drewN' ((Below.refl _ w).alloc (Nat.le_refl _) _)⟩

set_option maxRecDepth 100000 in
set_option maxHeartbeats 4000000 in
theorem part_K3c (k o : Int) (n : List UInt8) (v : Int) (p : Option Addr) (m c : Nat) (w : World) (hn0 : n.length ≤ 140737488355328) (hm0 : m ≤ 2199023255488) (hm : m ≠ 1) :
    Gives Tryz.prog 73 #[.agg #[.int .i64 3, .int .i64 o, sV [], .int .i64 0, .slice p m c]] w (.int .i64 1) := by
  unfold Gives
  have hma : ((m : Int) == 1) = false := by rw [beq_eq_false_iff_ne]; omega
  have hmb : ((m : Int) != 1) = true := by rw [bne_iff_ne]; omega
  go_enter Tryz.func73, Tryz.ntmps73
  go_wp2
  go_quiet (fail)
  go_wp2
  go_ret
  exact ⟨rfl, Ext.drewN' ((Below.refl _ w).alloc (Nat.le_refl _) _)⟩

set_option maxRecDepth 100000 in
set_option maxHeartbeats 4000000 in
theorem part_K4a (k o : Int) (n : List UInt8) (v : Int) (p : Option Addr) (m c : Nat) (w : World) (hn0 : n.length ≤ 140737488355328) (hm0 : m ≤ 2199023255488) (hv : v ≠ 0) :
    Gives Tryz.prog 73 #[.agg #[.int .i64 4, .int .i64 o, sV n, .int .i64 v, .slice p m c]] w (.int .i64 1) := by
  unfold Gives
  have hva : ((v : Int) == 0) = false := by rw [beq_eq_false_iff_ne]; omega
  have hvb : ((v : Int) != 0) = true := by rw [bne_iff_ne]; omega
  go_enter Tryz.func73, Tryz.ntmps73
  go_wp2
  go_quiet (fail)
  go_wp2
  go_ret
  exact ⟨rfl, Ext.drewN' ((Below.refl _ w).alloc (Nat.le_refl _) _)⟩

set_option maxRecDepth 100000 in
set_option maxHeartbeats 4000000 in
theorem part_K4b (k o : Int) (n : List UInt8) (v : Int) (p : Option Addr) (m c : Nat) (w : World) (hn0 : n.length ≤ 140737488355328) (hm0 : m ≤ 2199023255488) (hn : ¬ n = []) :
    Gives Tryz.prog 73 #[.agg #[.int .i64 4, .int .i64 o, sV n, .int .i64 0, .slice p m c]] w (.int .i64 1) := by
  unfold Gives
  have hn1 : n.isEmpty = false := by simpa using hn
  go_enter Tryz.func73, Tryz.ntmps73
  go_wp2
  go_quiet (fail)
  go_wp2
  go_ret
  exact ⟨rfl, Ext.drewN' ((Below.refl _ w).alloc (Nat.le_refl _) _)⟩

set_option maxRecDepth 100000 in
set_option maxHeartbeats 4000000 in
theorem part_K4c (k o : Int) (n : List UInt8) (v : Int) (p : Option Addr) (m c : Nat) (w : World) (hn0 : n.length ≤ 140737488355328) (hm0 : m ≤ 2199023255488) (hm : m ≠ 2) :
    Gives Tryz.prog 73 #[.agg #[.int .i64 4, .int .i64 o, sV [], .int .i64 0, .slice p m c]] w (.int .i64 1) := by
  unfold Gives
  have hma : ((m : Int) == 2) = false := by rw [beq_eq_false_iff_ne]; omega
  have hmb : ((m : Int) != 2) = true := by rw [bne_iff_ne]; omega
  go_enter Tryz.func73, Tryz.ntmps73
  go_wp2
  go_quiet (fail)
  go_wp2
  go_ret
  exact ⟨rfl, Ext.drewN' ((Below.refl _ w).alloc (Nat.le_refl _) _)⟩

set_option maxRecDepth 100000 in
set_option maxHeartbeats 4000000 in
theorem part_K3d (k o : Int) (n : List UInt8) (v : Int) (p : Option Addr) (m c : Nat) (w : World) (hn0 : n.length ≤ 140737488355328) (hm0 : m ≤ 2199023255488) :
    Gives Tryz.prog 73 #[.agg #[.int .i64 3, .int .i64 1, sV [], .int .i64 0, .slice p 1 c]] w (.int .i64 0) := by
  unfold Gives
  go_enter Tryz.func73, Tryz.ntmps73
  go_wp2
  go_quiet (fail)
  go_wp2
  go_ret
  exact ⟨rfl, Ext.drewN' ((Below.refl _ w).alloc (Nat.le_refl _) _)⟩

set_option maxRecDepth 100000 in
set_option maxHeartbeats 4000000 in
theorem part_K3e (k o : Int) (n : List UInt8) (v : Int) (p : Option Addr) (m c : Nat) (w : World) (hn0 : n.length ≤ 140737488355328) (hm0 : m ≤ 2199023255488) :
    Gives Tryz.prog 73 #[.agg #[.int .i64 3, .int .i64 2, sV [], .int .i64 0, .slice p 1 c]] w (.int .i64 0) := by
  unfold Gives
  go_enter Tryz.func73, Tryz.ntmps73
  go_wp2
  go_quiet (fail)
  go_wp2
  go_ret
  exact ⟨rfl, Ext.drewN' ((Below.refl _ w).alloc (Nat.le_refl _) _)⟩

set_option maxRecDepth 100000 in
set_option maxHeartbeats 4000000 in
theorem part_K3f (k o : Int) (n : List UInt8) (v : Int) (p : Option Addr) (m c : Nat) (w : World) (hn0 : n.length ≤ 140737488355328) (hm0 : m ≤ 2199023255488) (ho : o ≠ 1) (hp : o ≠ 2) :
    Gives Tryz.prog 73 #[.agg #[.int .i64 3, .int .i64 o, sV [], .int .i64 0, .slice p 1 c]] w (.int .i64 8) := by
  unfold Gives
  have hoa : ((o : Int) == 1) = false := by rw [beq_eq_false_iff_ne]; omega
  have hob : ((o : Int) != 1) = true := by rw [bne_iff_ne]; omega
  have hpa : ((o : Int) == 2) = false := by rw [beq_eq_false_iff_ne]; omega
  have hpb : ((o : Int) != 2) = true := by rw [bne_iff_ne]; omega
  go_enter Tryz.func73, Tryz.ntmps73
  go_wp2
  go_quiet (fail)
  go_wp2
  go_ret
  exact ⟨rfl, Ext.drewN' ((Below.refl _ w).alloc (Nat.le_refl _) _)⟩

set_option maxRecDepth 100000 in
set_option maxHeartbeats 4000000 in
theorem part_K4d (k o : Int) (n : List UInt8) (v : Int) (p : Option Addr) (m c : Nat) (w : World) (hn0 : n.length ≤ 140737488355328) (hm0 : m ≤ 2199023255488) (ho : o < 3) :
    Gives Tryz.prog 73 #[.agg #[.int .i64 4, .int .i64 o, sV [], .int .i64 0, .slice p 2 c]] w (.int .i64 8) := by
  unfold Gives
  go_enter Tryz.func73, Tryz.ntmps73
  go_wp2
  go_quiet (fail)
  go_wp2
  go_ret
  exact ⟨rfl, Ext.drewN' ((Below.refl _ w).alloc (Nat.le_refl _) _)⟩

set_option maxRecDepth 100000 in
set_option maxHeartbeats 4000000 in
theorem part_K4e (k o : Int) (n : List UInt8) (v : Int) (p : Option Addr) (m c : Nat) (w : World) (hn0 : n.length ≤ 140737488355328) (hm0 : m ≤ 2199023255488) (ho : 15 < o) :
    Gives Tryz.prog 73 #[.agg #[.int .i64 4, .int .i64 o, sV [], .int .i64 0, .slice p 2 c]] w (.int .i64 8) := by
  unfold Gives
  have ho3 : ¬ o < 3 := by omega
  go_enter Tryz.func73, Tryz.ntmps73
  go_wp2
  go_quiet (fail)
  go_wp2
  go_ret
  exact ⟨rfl, Ext.drewN' ((Below.refl _ w).alloc (Nat.le_refl _) _)⟩

set_option maxRecDepth 100000 in
set_option maxHeartbeats 4000000 in
theorem part_K4f (k o : Int) (n : List UInt8) (v : Int) (p : Option Addr) (m c : Nat) (w : World) (hn0 : n.length ≤ 140737488355328) (hm0 : m ≤ 2199023255488) (ho : ¬ o < 3) (hp : ¬ 15 < o) :
    Gives Tryz.prog 73 #[.agg #[.int .i64 4, .int .i64 o, sV [], .int .i64 0, .slice p 2 c]] w (.int .i64 0) := by
  unfold Gives
  go_enter Tryz.func73, Tryz.ntmps73
  go_wp2
  go_quiet (fail)
  go_wp2
  go_ret
  exact ⟨rfl, Ext.drewN' ((Below.refl _ w).alloc (Nat.le_refl _) _)⟩

set_option maxRecDepth 100000 in
set_option maxHeartbeats 4000000 in
theorem part_KL (k o : Int) (n : List UInt8) (v : Int) (p : Option Addr) (m c : Nat) (w : World) (hn0 : n.length ≤ 140737488355328) (hm0 : m ≤ 2199023255488) (hk : k < 1) :
    Gives Tryz.prog 73 #[.agg #[.int .i64 k, .int .i64 o, sV n, .int .i64 v, .slice p m c]] w (.int .i64 8) := by
  unfold Gives
  go_enter Tryz.func73, Tryz.ntmps73
  go_wp2
  go_ret
  exact ⟨rfl, (Below.refl _ w).alloc (Nat.le_refl _) _⟩

set_option maxRecDepth 100000 in
set_option maxHeartbeats 4000000 in
theorem part_KG (k o : Int) (n : List UInt8) (v : Int) (p : Option Addr) (m c : Nat) (w : World) (hn0 : n.length ≤ 140737488355328) (hm0 : m ≤ 2199023255488) (hk : 4 < k) :
    Gives Tryz.prog 73 #[.agg #[.int .i64 k, .int .i64 o, sV n, .int .i64 v, .slice p m c]] w (.int .i64 8) := by
  unfold Gives
  have hk1 : ¬ k < 1 := by omega
  go_enter Tryz.func73, Tryz.ntmps73
  go_wp2
  go_ret
  exact ⟨rfl, (Below.refl _ w).alloc (Nat.le_refl _) _⟩

end Go.Proofs.YtgkalcboklhdgaaGreatDoor

namespace Go.Proofs.YtgkalcboklhdgaaGreatDoor
open Go.RowKit
set_option linter.unusedVariables false
set_option linter.unusedSimpArgs false
open Ex

theorem pc_ind {Q : Int → Int → List UInt8 → Int → Nat → Int → Prop}
    (K1a : ∀ (o : Int) (n : List UInt8) (v : Int) (m : Nat) (_ : ¬ n = []), Q 1 o n v m 1)
    (K1b : ∀ (o : Int) (v : Int) (m : Nat) (_ : o ≠ 0), Q 1 o [] v m 1)
    (K1c : ∀ (v : Int) (m : Nat) (_ : m ≠ 0), Q 1 0 [] v m 1)
    (K1d : ∀ (v : Int) (_ : v < 0), Q 1 0 [] v 0 2)
    (K1e : ∀ (v : Int) (_ : 1099511627776 < v), Q 1 0 [] v 0 2)
    (K1f : ∀ (v : Int) (_ : ¬ v < 0) (_ : ¬ 1099511627776 < v), Q 1 0 [] v 0 0)
    (K2a : ∀ (o : Int) (n : List UInt8) (v : Int) (m : Nat) (_ : v ≠ 0), Q 2 o n v m 1)
    (K2b : ∀ (o : Int) (n : List UInt8) (m : Nat) (_ : o ≠ 0), Q 2 o n 0 m 1)
    (K2c : ∀ (n : List UInt8) (m : Nat) (_ : m ≠ 0), Q 2 0 n 0 m 1)
    (K2d : ∀ (n : List UInt8) (_ : isNm n = false), Q 2 0 n 0 0 5)
    (K2e : ∀ (n : List UInt8) (_ : isNm n = true), Q 2 0 n 0 0 0)
    (K3a : ∀ (o : Int) (n : List UInt8) (v : Int) (m : Nat) (_ : v ≠ 0), Q 3 o n v m 1)
    (K3b : ∀ (o : Int) (n : List UInt8) (m : Nat) (_ : ¬ n = []), Q 3 o n 0 m 1)
    (K3c : ∀ (o : Int) (m : Nat) (_ : m ≠ 1), Q 3 o [] 0 m 1)
    (K4a : ∀ (o : Int) (n : List UInt8) (v : Int) (m : Nat) (_ : v ≠ 0), Q 4 o n v m 1)
    (K4b : ∀ (o : Int) (n : List UInt8) (m : Nat) (_ : ¬ n = []), Q 4 o n 0 m 1)
    (K4c : ∀ (o : Int) (m : Nat) (_ : m ≠ 2), Q 4 o [] 0 m 1)
    (K3d : ∀ (_ : Unit), Q 3 1 [] 0 1 0)
    (K3e : ∀ (_ : Unit), Q 3 2 [] 0 1 0)
    (K3f : ∀ (o : Int) (_ : o ≠ 1) (_ : o ≠ 2), Q 3 o [] 0 1 8)
    (K4d : ∀ (o : Int) (_ : o < 3), Q 4 o [] 0 2 8)
    (K4e : ∀ (o : Int) (_ : 15 < o), Q 4 o [] 0 2 8)
    (K4f : ∀ (o : Int) (_ : ¬ o < 3) (_ : ¬ 15 < o), Q 4 o [] 0 2 0)
    (KL : ∀ (k : Int) (o : Int) (n : List UInt8) (v : Int) (m : Nat) (_ : k < 1), Q k o n v m 8)
    (KG : ∀ (k : Int) (o : Int) (n : List UInt8) (v : Int) (m : Nat) (_ : 4 < k), Q k o n v m 8) : ∀ k o n v m, Q k o n v m (pc' k o n v m) := by
  intro k o n v m
  have S : ∀ r, pc' k o n v m = r → Q k o n v m r → Q k o n v m (pc' k o n v m) := fun r h hq => h ▸ hq
  by_cases k1 : k < 1
  · exact S 8 (by simp [pc', k1]) (KL k o n v m k1)
  by_cases k4 : 4 < k
  · exact S 8 (by simp [pc', k4]) (KG k o n v m k4)
  obtain rfl | rfl | rfl | rfl : k = 1 ∨ k = 2 ∨ k = 3 ∨ k = 4 := by omega
  · by_cases hn : n = []
    · subst hn
      by_cases ho : o = 0
      · subst ho
        by_cases hm : m = 0
        · subst hm
          by_cases hv : v < 0
          · exact S 2 (by simp [pc', arity, hv]) (K1d v hv)
          · by_cases hw : 1099511627776 < v
            · exact S 2 (by simp [pc', arity, hw]) (K1e v hw)
            · exact S 0 (by simp [pc', arity, hv, hw]) (K1f v hv hw)
        · exact S 1 (by simp [pc', arity, hm]) (K1c v m hm)
      · exact S 1 (by simp [pc', ho]) (K1b o v m ho)
    · exact S 1 (by simp [pc', hn]) (K1a o n v m hn)
  · by_cases hv : v = 0
    · subst hv
      by_cases ho : o = 0
      · subst ho
        by_cases hm : m = 0
        · subst hm
          cases hq : isNm n with
          | true => exact S 0 (by simp [pc', arity, hq]) (K2e n hq)
          | false => exact S 5 (by simp [pc', arity, hq]) (K2d n hq)
        · exact S 1 (by simp [pc', arity, hm]) (K2c n m hm)
      · exact S 1 (by simp [pc', ho]) (K2b o n m ho)
    · exact S 1 (by simp [pc', hv]) (K2a o n v m hv)
  · by_cases hv : v = 0
    · subst hv
      by_cases hn : n = []
      · subst hn
        by_cases hm : m = 1
        · subst hm
          by_cases h1 : o = 1
          · subst h1; exact S 0 (by simp [pc', arity]) (K3d ())
          · by_cases h2 : o = 2
            · subst h2; exact S 0 (by simp [pc', arity]) (K3e ())
            · exact S 8 (by simp [pc', arity, h1, h2]) (K3f o h1 h2)
        · exact S 1 (by simp [pc', arity, hm]) (K3c o m hm)
      · exact S 1 (by simp [pc', hn]) (K3b o n m hn)
    · exact S 1 (by simp [pc', hv]) (K3a o n v m hv)
  · by_cases hv : v = 0
    · subst hv
      by_cases hn : n = []
      · subst hn
        by_cases hm : m = 2
        · subst hm
          by_cases h1 : o < 3
          · exact S 8 (by simp [pc', arity, h1]) (K4d o h1)
          · by_cases h2 : 15 < o
            · exact S 8 (by simp [pc', arity, h2]) (K4e o h2)
            · exact S 0 (by simp [pc', arity, h1, h2]) (K4f o h1 h2)
        · exact S 1 (by simp [pc', arity, hm]) (K4c o m hm)
      · exact S 1 (by simp [pc', hn]) (K4b o n m hn)
    · exact S 1 (by simp [pc', hv]) (K4a o n v m hv)

theorem part_any (e : Ex) (p : Option Addr) (c : Nat) (w : World) (hf : fits e) : Gives Tryz.prog 73 #[e.val p c] w (.int .i64 (pc e)) := by
  have h3 := hf.2.2.1
  have h5 := hf.2.2.2.2
  show Gives _ _ #[.agg #[.int .i64 e.kind, .int .i64 e.op, sV e.name, .int .i64 e.value, .slice p e.args.length c]] _ _
  unfold pc
  refine pc_ind (Q := fun k o n v m r => n.length ≤ 140737488355328 → m ≤ 2199023255488 → Gives Tryz.prog 73 #[.agg #[.int .i64 k, .int .i64 o, sV n, .int .i64 v, .slice p m c]] w (.int .i64 r))
    (fun o n v m h0 a b => part_K1a 0 o n v p m c w a b h0)
    (fun o v m h0 a b => part_K1b 0 o [] v p m c w (by simp) b h0)
    (fun v m h0 a b => part_K1c 0 0 [] v p m c w (by simp) b h0)
    (fun v h0 a b => part_K1d 0 0 [] v p 0 c w (by simp) (by omega) h0)
    (fun v h0 a b => part_K1e 0 0 [] v p 0 c w (by simp) (by omega) h0)
    (fun v h0 h1 a b => part_K1f 0 0 [] v p 0 c w (by simp) (by omega) h0 h1)
    (fun o n v m h0 a b => part_K2a 0 o n v p m c w a b h0)
    (fun o n m h0 a b => part_K2b 0 o n 0 p m c w a b h0)
    (fun n m h0 a b => part_K2c 0 0 n 0 p m c w a b h0)
    (fun n h0 a b => part_K2d 0 0 n 0 p 0 c w a (by omega) h0)
    (fun n h0 a b => part_K2e 0 0 n 0 p 0 c w a (by omega) h0)
    (fun o n v m h0 a b => part_K3a 0 o n v p m c w a b h0)
    (fun o n m h0 a b => part_K3b 0 o n 0 p m c w a b h0)
    (fun o m h0 a b => part_K3c 0 o [] 0 p m c w (by simp) b h0)
    (fun o n v m h0 a b => part_K4a 0 o n v p m c w a b h0)
    (fun o n m h0 a b => part_K4b 0 o n 0 p m c w a b h0)
    (fun o m h0 a b => part_K4c 0 o [] 0 p m c w (by simp) b h0)
    (fun _ a b => part_K3d 0 0 [] 0 p 0 c w (by simp) (by omega) )
    (fun _ a b => part_K3e 0 0 [] 0 p 0 c w (by simp) (by omega) )
    (fun o h0 h1 a b => part_K3f 0 o [] 0 p 0 c w (by simp) (by omega) h0 h1)
    (fun o h0 a b => part_K4d 0 o [] 0 p 0 c w (by simp) (by omega) h0)
    (fun o h0 a b => part_K4e 0 o [] 0 p 0 c w (by simp) (by omega) h0)
    (fun o h0 h1 a b => part_K4f 0 o [] 0 p 0 c w (by simp) (by omega) h0 h1)
    (fun k o n v m h0 a b => part_KL k o n v p m c w a b h0)
    (fun k o n v m h0 a b => part_KG k o n v p m c w a b h0)
    e.kind e.op e.name e.value e.args.length h3 h5

end Go.Proofs.YtgkalcboklhdgaaGreatDoor

