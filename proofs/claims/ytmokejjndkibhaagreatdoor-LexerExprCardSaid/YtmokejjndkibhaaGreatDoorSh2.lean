/- Lemmas and walks for the statements of this seat, part 2, merged from smaller texts: A region that draws its order, whose operations may make memory and store: each operation's result is described by a predicate on the values of the operations that it waits for, and on the world, which a relation of one's own keeps.; A look-up among the operators.; A part of an expression: the reference's part. Printed by mk_part.py.; A part of an expression: the cases joined. Printed by mk_part2.py.; expr's check: the region that copies the expression.; The reference's size, depth, long; expr's measure, Size. -/
import Derived.Laws.Tables
import Derived.Laws.Rows
import Derived.Test.YtmokejjndkibhaaGreatDoorSh1

namespace Go.Proofs.YtmokejjndkibhaaGreatDoor
open Go.RowKit
set_option linter.unusedVariables false

/-- operation j waits for operation i, within n steps -/
def ancB (l : List Oper) : Nat → Nat → Nat → Bool
  | 0, _, _ => false
  | n + 1, j, i => match l[j]? with
    | none => false
    | some o => o.after.toList.any fun e => Region.binds .any e && (decide (e.on = i) || ancB l n e.on i)
/-- the values that the operations have yielded -/
def sv (l : List Oper) (a : Act) (j : Nat) : Value := match (l[j]?).bind (·.dst) with | none => undef | some d => a.tmps.getD d undef
theorem sv_dst {l : List Oper} {a : Act} {j d : Nat} (h : (l[j]?).bind (·.dst) = some d) : sv l a j = a.eval (.tmp d) := by
  unfold sv; rw [h]; rfl

structure AtG (l : List Oper) (R : World → World → Prop) (Φ : Nat → (Nat → Value) → World → Prop) (a : Act) (w : World) (i : Nat) (o : Oper) (a' : Act) (W : World) : Prop where
  rel : R w W
  size : a'.tmps.size = a.tmps.size
  defers : a'.defers = a.defers
  old : ∀ d, (∀ (j : Nat) oj, l[j]? = some oj → oj.dst = some d → ancB l l.length j i = true) → a'.tmps.getD d undef = a.tmps.getD d undef
  new : ∀ j, j < l.length → ancB l l.length i j = true → Φ j (sv l a') W

theorem AtG.keep {l : List Oper} {R : World → World → Prop} {Φ : Nat → (Nat → Value) → World → Prop} {a : Act} {w : World} {i : Nat} {o : Oper} {a' : Act} {W : World} (h : AtG l R Φ a w i o a' W) (d : Nat)
    (h1 : (l.zipIdx.all fun (oj, j) => decide (oj.dst ≠ some d) || ancB l l.length j i) = true) : a'.eval (.tmp d) = a.eval (.tmp d) := by
  refine h.old d (fun j oj hj hd => ?_)
  have := List.all_eq_true.1 h1 (oj, j) (List.mem_zipIdx_iff_getElem?.2 (by simpa using hj))
  simp only [Bool.or_eq_true, decide_eq_true_eq] at this
  rcases this with h2 | h2
  · exact absurd hd h2
  · exact h2

/-- one operation -/
def GoesG (P : Program) (l : List Oper) (R : World → World → Prop) (Φ : Nat → (Nat → Value) → World → Prop) (i : Nat) (o : Oper) (a' : Act) (W : World) (Q : Exit → Act → World → Prop) : Prop :=
  if Region.wanted o (yielded l.toArray a'.tmps) then
    o.wp P a' W (fun a2 W2 => ∃ v, a2 = a'.put o.dst v ∧ R W W2 ∧ ∀ s : Nat → Value, (o.dst.isSome = true → s i = v) → (∀ k, k ≠ i → ancB l l.length i k = true → s k = sv l a' k) → Φ i s W2) Q
  else R W W ∧ ∀ s : Nat → Value, (o.dst.isSome = true → s i = undef) → (∀ k, k ≠ i → ancB l l.length i k = true → s k = sv l a' k) → Φ i s W

theorem anc_back {l : List Oper} (hb : backB l = true) : ∀ n j i, ancB l n j i = true → i < j
  | 0, _, _, h => by simp [ancB] at h
  | n + 1, j, i, h => by
    unfold ancB at h
    split at h
    · cases h
    · rename_i o ho
      obtain ⟨e, he, hh⟩ := List.any_eq_true.1 h
      simp only [Bool.and_eq_true, Bool.or_eq_true, decide_eq_true_eq] at hh
      have h1 := backB_spec hb ho (by simpa using he) hh.1
      rcases hh.2 with h2 | h2
      · omega
      · have := anc_back hb n e.on i h2; omega

/-- the operations that are listed are closed under what they wait for -/
def downC (l : List Oper) (listed : Array Bool) : Prop := ∀ (j : Nat) oj, l[j]? = some oj → listed.getD j false = true → ∀ e ∈ oj.after, Region.binds .any e = true → listed.getD e.on false = true
theorem downC.anc {l : List Oper} {listed : Array Bool} (h : downC l listed) : ∀ n j i, listed.getD j false = true → ancB l n j i = true → listed.getD i false = true
  | 0, _, _, _, h => by simp [ancB] at h
  | n + 1, j, i, hj, ha => by
    unfold ancB at ha
    split at ha
    · cases ha
    · rename_i o ho
      obtain ⟨e, he, hh⟩ := List.any_eq_true.1 ha
      simp only [Bool.and_eq_true, Bool.or_eq_true, decide_eq_true_eq] at hh
      have h1 := h j o ho hj e (by simpa using he) hh.1
      rcases hh.2 with h2 | h2
      · rw [← h2]; exact h1
      · exact downC.anc h n e.on i h1 h2

/-- what an operation's predicate reads: itself, and what it waits for -/
def readsB (l : List Oper) (D : Nat → List Nat) : Bool := (List.range l.length).all fun j => (D j).all fun k => decide (k = j) || ancB l l.length j k

structure InvG (l : List Oper) (R : World → World → Prop) (Φ : Nat → (Nat → Value) → World → Prop) (a : Act) (w : World) (listed : Array Bool) (a' : Act) (W : World) : Prop where
  rel : R w W
  lsize : listed.size = l.length
  size : a'.tmps.size = a.tmps.size
  defers : a'.defers = a.defers
  old : ∀ d, (∀ (j : Nat) oj, l[j]? = some oj → oj.dst = some d → listed.getD j false = false) → a'.tmps.getD d undef = a.tmps.getD d undef
  new : ∀ j, j < l.length → listed.getD j false = true → Φ j (sv l a') W
  down : downC l listed

theorem sv_put_self {l : List Oper} {a : Act} {i : Nat} {o : Oper} {v : Value} (ho : l[i]? = some o) (hin : ∀ d ∈ l.filterMap (·.dst), d < a.tmps.size) (hd : o.dst.isSome = true) : sv l (a.put o.dst v) i = v := by
  obtain ⟨d, hd⟩ := Option.isSome_iff_exists.1 hd
  unfold sv
  rw [ho]
  simp only [Option.bind_some, hd]
  exact put_self (o := some d) rfl (hin d (List.mem_filterMap.2 ⟨o, List.mem_of_getElem? ho, hd⟩))
theorem sv_put_other {l : List Oper} {a : Act} {i j : Nat} {o : Oper} {v : Value} (hun : uniqB l = true) (ho : l[i]? = some o) (hji : j ≠ i) : sv l (a.put o.dst v) j = sv l a j := by
  unfold sv
  split
  · rfl
  · rename_i d hd
    obtain ⟨oj, hj, hdj⟩ := Option.bind_eq_some_iff.1 hd
    exact put_other (fun e => hji (uniqB_spec hun hj ho hdj e))

theorem wp_region_gen {P : Program} {id : Nat} {Q : Exit → Act → World → Prop} {a : Act} {w : World} {l : List Oper} (hm : P.follows .mixedOrders = true)
    (R : World → World → Prop) (hR0 : ∀ W : World, R W { W with drawn := W.drawn + 1 }) (hRt : ∀ {A B C}, R A B → R B C → R A C)
    (Φ : Nat → (Nat → Value) → World → Prop) (D : Nat → List Nat) (hst : ∀ j s s' W W', Φ j s W → (∀ k ∈ D j, s' k = s k) → R W W' → Φ j s' W')
    (hback : backB l = true) (hun : uniqB l = true) (hreads : readsB l D = true) (hin : ∀ d ∈ l.filterMap (·.dst), d < a.tmps.size)
    (hstep : ∀ (i : Nat) o, l[i]? = some o → ∀ a' W, AtG l R Φ a w i o a' W → GoesG P l R Φ i o a' W Q)
    (hend : ∀ a' W, R w W → a'.tmps.size = a.tmps.size → a'.defers = a.defers → (∀ d, d ∉ l.filterMap (·.dst) → a'.tmps.getD d undef = a.tmps.getD d undef) →
      (∀ j, j < l.length → Φ j (sv l a') W) → Q .normal a' W) :
    (Code.region id l.toArray true).wp P Q a w := by
  refine wp_region_any hm ?_
  have main : ∀ (fuel : Nat) (listed : Array Bool) (a' : Act) (W : World), listed.toList.count false = fuel → InvG l R Φ a w listed a' W → wpAny P .any l.toArray Q fuel listed a' W := by
    intro fuel
    induction fuel with
    | zero =>
      intro listed a' W hc hI
      have hall : ∀ i, i < l.length → listed.getD i false = true := by
        intro i hi
        have hi' : i < listed.size := by rw [hI.lsize]; exact hi
        cases hb : listed.getD i false with
        | true => rfl
        | false =>
          exfalso
          have : false ∈ listed.toList := by
            simp only [Array.getD_eq_getD_getElem?, Array.getElem?_eq_getElem hi', Option.getD_some] at hb
            rw [← hb]; simp
          have := List.count_pos_iff.2 this
          omega
      have hr : Region.ready .any l.toArray listed = [] := by
        apply List.eq_nil_iff_forall_not_mem.2
        intro i hi
        rw [mem_ready] at hi
        obtain ⟨h1, o, ho, _⟩ := hi
        have hi' : i < l.length := by
          have := (Array.getElem?_eq_some_iff.1 ho).1
          simpa using this
        have h2 := hall i hi'
        have hi2 : i < listed.size := by rw [hI.lsize]; exact hi'
        simp only [Array.getD_eq_getD_getElem?, Array.getElem?_eq_getElem hi2, Option.getD_some] at h1 h2
        rw [h1] at h2; cases h2
      exact ⟨hr, hend a' W hI.rel hI.size hI.defers (fun d hd => hI.old d (fun j oj hj hd' => absurd (List.mem_filterMap.2 ⟨oj, List.mem_of_getElem? hj, hd'⟩) hd)) (fun j hj => hI.new j hj (hall j hj))⟩
    | succ fuel ih =>
      intro listed a' W hc hI
      refine ⟨fun h0 => ?_, fun i hi => ?_⟩
      · have hall := all_listed hback hI.lsize h0
        exact hend a' W hI.rel hI.size hI.defers (fun d hd => hI.old d (fun j oj hj hd' => absurd (List.mem_filterMap.2 ⟨oj, List.mem_of_getElem? hj, hd'⟩) hd)) (fun j hj => hI.new j hj (hall j hj))
      · obtain ⟨hl0, o, ho, hwait⟩ := mem_ready.1 hi
        have ho' : l[i]? = some o := by simpa using ho
        have hil : i < l.length := (List.getElem?_eq_some_iff.1 ho').1
        have hil' : i < listed.size := by rw [hI.lsize]; exact hil
        have hlf : listed.getD i false = false := by
          simp only [Array.getD_eq_getD_getElem?, Array.getElem?_eq_getElem hil', Option.getD_some] at hl0 ⊢
          exact hl0
        have hanc : ∀ n k, ancB l n i k = true → listed.getD k false = true := by
          intro n k hk
          cases n with
          | zero => simp [ancB] at hk
          | succ n =>
            unfold ancB at hk
            rw [ho'] at hk
            obtain ⟨e, he, hh⟩ := List.any_eq_true.1 hk
            simp only [Bool.and_eq_true, Bool.or_eq_true, decide_eq_true_eq] at hh
            have h1 := hwait e (by simpa using he) hh.1
            rcases hh.2 with h2 | h2
            · rw [← h2]; exact h1
            · exact hI.down.anc n e.on k h1 h2
        have hAt : AtG l R Φ a w i o a' W := ⟨hI.rel, hI.size, hI.defers,
          fun d hd => hI.old d (fun j oj hj hdj => by
            have hji := hd j oj hj hdj
            cases hlj : listed.getD j false with
            | false => rfl
            | true =>
              have := hI.down.anc _ j i hlj hji
              rw [hlf] at this; cases this),
          fun j hj ha => hI.new j hj (hanc _ j ha)⟩
        have hG := hstep i o ho' a' W hAt
        have hnext : ∀ v W2, R W W2 → (∀ s : Nat → Value, (o.dst.isSome = true → s i = v) → (∀ k, k ≠ i → ancB l l.length i k = true → s k = sv l a' k) → Φ i s W2) → wpAny P .any l.toArray Q fuel (listed.setIfInBounds i true) (a'.put o.dst v) W2 := by
          intro v W2 hR hv
          have hin' : ∀ d ∈ l.filterMap (·.dst), d < a'.tmps.size := fun d hd => by rw [hI.size]; exact hin d hd
          refine ih _ _ _ ?_ ?_
          · have := count_set listed.toList i (by simp [hil']; simpa [Array.getD_eq_getD_getElem?, hil'] using hlf)
            rw [Array.toList_setIfInBounds]; omega
          · have hset : ∀ j, j ≠ i → (listed.setIfInBounds i true).getD j false = listed.getD j false := fun j hj => getD_set_ne false (Ne.symm hj)
            refine ⟨hRt hI.rel hR, by simpa using hI.lsize, by rw [put_size]; exact hI.size, by rw [put_defers]; exact hI.defers, ?_, ?_, ?_⟩
            · intro d hd
              have hne : o.dst ≠ some d := fun e => by
                have := hd i o ho' e
                simp [Array.getD_eq_getD_getElem?, hil'] at this
              rw [put_other hne]
              refine hI.old d (fun j oj hj hdj => ?_)
              by_cases hji : j = i
              · subst hji; exact hlf
              · have := hd j oj hj hdj
                rwa [hset j hji] at this
            · intro j hj hlj
              by_cases hji : j = i
              · subst hji
                exact hv _ (fun hd => sv_put_self ho' hin' hd) (fun k hk _ => sv_put_other hun ho' hk)
              · rw [hset j hji] at hlj
                refine hst j _ _ _ _ (hI.new j hj hlj) (fun k hk => sv_put_other hun ho' ?_) hR
                rintro rfl
                have h1 := List.all_eq_true.1 (List.all_eq_true.1 hreads j (List.mem_range.2 hj)) k hk
                simp only [Bool.or_eq_true, decide_eq_true_eq] at h1
                rcases h1 with h1 | h1
                · exact hji h1.symm
                · have := hI.down.anc _ j k hlj h1
                  rw [hlf] at this; cases this
            · intro j oj hj hlj e he hb
              by_cases hji : j = i
              · subst hji
                rw [ho'] at hj; cases hj
                exact getD_set_true (hwait e he hb)
              · rw [hset j hji] at hlj
                exact getD_set_true (hI.down j oj hj hlj e he hb)
        unfold wpOp
        rw [show l.toArray[i]? = some o by simpa using ho']
        unfold GoesG at hG
        by_cases hwant : Region.wanted o (yielded l.toArray a'.tmps) = true
        · rw [if_pos hwant] at hG
          simp only [hwant, if_true]
          exact .inl (Oper.wp_mono (fun a2 W2 ⟨v, e, hR, hv⟩ => by rw [e]; exact hnext v W2 hR hv) hG)
        · rw [if_neg hwant] at hG
          simp only [hwant]
          exact hnext undef W hG.1 hG.2
  have h0 := main l.length (Array.replicate l.length false) a { w with drawn := w.drawn + 1 } (by simp)
    ⟨hR0 w, by simp, rfl, rfl, fun _ _ => rfl, (fun j _ h => by rw [getD_false] at h; cases h), (fun j oj _ h => by rw [getD_false] at h; cases h)⟩
  simpa using h0

/-- the theorem, its end with the values named -/
theorem wp_region_g {P : Program} {id : Nat} {Q : Exit → Act → World → Prop} {a : Act} {w : World} {l : List Oper} (hm : P.follows .mixedOrders = true)
    (R : World → World → Prop) (hR0 : ∀ W : World, R W { W with drawn := W.drawn + 1 }) (hRt : ∀ {A B C}, R A B → R B C → R A C)
    (Φ : Nat → (Nat → Value) → World → Prop) (D : Nat → List Nat) (hst : ∀ j s s' W W', Φ j s W → (∀ k ∈ D j, s' k = s k) → R W W' → Φ j s' W')
    (hback : backB l = true) (hun : uniqB l = true) (hreads : readsB l D = true) (N : Nat) (hN : a.tmps.size = N) (hinB : ((l.filterMap (·.dst)).all fun d => decide (d < N)) = true)
    (hstep : ∀ (i : Nat) o, l[i]? = some o → ∀ a' W, AtG l R Φ a w i o a' W → GoesG P l R Φ i o a' W Q)
    (hend : ∀ (vs : List Value) W, vs.length = l.length → R w W → (∀ j, j < l.length → Φ j (fun k => vs.getD k undef) W) → Q .normal (putAll l vs a) W) :
    (Code.region id l.toArray true).wp P Q a w := by
  have hin : ∀ d ∈ l.filterMap (·.dst), d < a.tmps.size := fun d hd => by rw [hN]; exact of_decide_eq_true (List.all_eq_true.1 hinB d hd)
  refine wp_region_gen hm R hR0 hRt Φ D hst hback hun hreads hin hstep ?_
  intro a' W hE hs hd hold hnew
  have e : a' = putAll l (l.map fun o => match o.dst with | none => undef | some d => a'.tmps.getD d undef) a := by
    refine act_eq (by rw [putAll_size]; exact hs) (by rw [putAll_defers]; exact hd) ?_
    intro d hlt
    by_cases hm : d ∈ l.filterMap (·.dst)
    · obtain ⟨o, ho, hod⟩ := List.mem_filterMap.1 hm
      obtain ⟨j, hj⟩ := List.getElem?_of_mem ho
      rw [putAll_self l _ a j o d (by simp) hj hod (fun i p hp e => uniqB_spec hun hp hj e hod) (by rw [← hs]; exact hlt)]
      rw [List.getD_eq_getElem?_getD, List.getElem?_map, hj]
      simp [hod]
    · rw [putAll_other l _ a d (fun o ho e => hm (List.mem_filterMap.2 ⟨o, ho, e⟩))]
      exact hold d hm
  have hsv : (fun k => (l.map fun o => match o.dst with | none => undef | some d => a'.tmps.getD d undef).getD k undef) = sv l a' := by
    funext k
    unfold sv
    rw [List.getD_eq_getElem?_getD, List.getElem?_map]
    cases hk : l[k]? with
    | none => rfl
    | some o => cases hod : o.dst <;> simp [hod]
  rw [e]
  refine hend _ W (by simp) hE (fun j hj => ?_)
  rw [hsv]
  exact hnew j hj

/-- an operation that yields a value -/
theorem GoesG.value {P : Program} {l : List Oper} {R : World → World → Prop} {Φ : Nat → (Nat → Value) → World → Prop} {i : Nat} {o : Oper} {a' : Act} {W W' : World} {Q : Exit → Act → World → Prop} (v : Value) (hg : o.guard = none) (hrun : (execOp a'.eval o).run P W = .ok (.value v) W') (hR : R W W')
    (hΦ : ∀ s : Nat → Value, (o.dst.isSome = true → s i = v) → (∀ k, k ≠ i → ancB l l.length i k = true → s k = sv l a' k) → Φ i s W') : GoesG P l R Φ i o a' W Q := by
  unfold GoesG
  rw [if_pos (by simp [Region.wanted, hg])]
  unfold Oper.wp
  rw [hrun]
  exact ⟨v, rfl, hR, hΦ⟩
theorem GoesG.skip {P : Program} {l : List Oper} {R : World → World → Prop} {Φ : Nat → (Nat → Value) → World → Prop} {i : Nat} {o : Oper} {a' : Act} {W W' : World} {Q : Exit → Act → World → Prop} (hg : o.guard = none) (hrun : (execOp a'.eval o).run P W = .ok .skip W') (hR : R W W')
    (hΦ : ∀ s : Nat → Value, (o.dst.isSome = true → s i = undef) → (∀ k, k ≠ i → ancB l l.length i k = true → s k = sv l a' k) → Φ i s W') : GoesG P l R Φ i o a' W Q := by
  unfold GoesG
  rw [if_pos (by simp [Region.wanted, hg])]
  unfold Oper.wp
  rw [hrun]
  exact ⟨undef, rfl, hR, hΦ⟩
theorem GoesG.move {P : Program} {l : List Oper} {R : World → World → Prop} {Φ : Nat → (Nat → Value) → World → Prop} {i : Nat} {o : Oper} {a' : Act} {W : World} {Q : Exit → Act → World → Prop} (x : Operand) (hg : o.guard = none) (hop : o.op = .move x) (hR : R W W)
    (hΦ : ∀ s : Nat → Value, (o.dst.isSome = true → s i = a'.eval x) → (∀ k, k ≠ i → ancB l l.length i k = true → s k = sv l a' k) → Φ i s W) : GoesG P l R Φ i o a' W Q :=
  GoesG.value _ hg (BigFrame.run_move x hop _) hR hΦ
theorem GoesG.assign {P : Program} {l : List Oper} {R : World → World → Prop} {Φ : Nat → (Nat → Value) → World → Prop} {i : Nat} {o : Oper} {a' : Act} {W : World} {Q : Exit → Act → World → Prop} (x : Operand) (hg : o.guard = none) (hop : o.op = .assign x) (hR : R W W)
    (hΦ : ∀ s : Nat → Value, (o.dst.isSome = true → s i = a'.eval x) → (∀ k, k ≠ i → ancB l l.length i k = true → s k = sv l a' k) → Φ i s W) : GoesG P l R Φ i o a' W Q :=
  GoesG.value _ hg (BigFrame.run_assign x hop _) hR hΦ
theorem GoesG.call {P : Program} {l : List Oper} {R : World → World → Prop} {Φ : Nat → (Nat → Value) → World → Prop} {i : Nat} {o : Oper} {a' : Act} {W : World} {Q : Exit → Act → World → Prop} (f : FuncId) (args : Array Value) (hg : o.guard = none) (hrun : (execOp a'.eval o).run P W = .ok (.enter f args) W)
    (hc : Calls P f args W fun e W' => ∃ v, e = .returned v ∧ R W W' ∧ ∀ s : Nat → Value, (o.dst.isSome = true → s i = v) → (∀ k, k ≠ i → ancB l l.length i k = true → s k = sv l a' k) → Φ i s W') : GoesG P l R Φ i o a' W Q := by
  unfold GoesG
  rw [if_pos (by simp [Region.wanted, hg])]
  unfold Oper.wp
  rw [hrun]
  exact hc.mono fun e W' ⟨v, he, hR, hΦ⟩ => by subst he; exact ⟨v, rfl, hR, hΦ⟩

/-- blocks from B on of cells of type T may turn, to such cells as F holds of; the others stay; memory grows -/
structure Grow (B : Nat) (T : TypeId) (F : Array Value → Prop) (W W' : World) : Prop where
  os : W'.os = W.os
  tape : W'.tape = W.tape
  output : W'.output = W.output
  size : W.heap.size ≤ W'.heap.size
  block : ∀ j, j < W.heap.size → W'.heap[j]? = W.heap[j]? ∨ (B ≤ j ∧ ∃ c c' f, W.heap[j]? = some (.cells c T f) ∧ W'.heap[j]? = some (.cells c' T f) ∧ c'.size = c.size ∧ F c')
theorem Grow.refl (B : Nat) (T : TypeId) (F : Array Value → Prop) (W : World) : Grow B T F W W := ⟨rfl, rfl, rfl, Nat.le_refl _, fun _ _ => .inl rfl⟩
theorem Grow.drawn (B : Nat) (T : TypeId) (F : Array Value → Prop) (W : World) : Grow B T F W { W with drawn := W.drawn + 1 } := ⟨rfl, rfl, rfl, Nat.le_refl _, fun _ _ => .inl rfl⟩
theorem Grow.trans {B : Nat} {T : TypeId} {F : Array Value → Prop} {a b c : World} (h : Grow B T F a b) (g : Grow B T F b c) : Grow B T F a c := by
  refine ⟨g.os.trans h.os, g.tape.trans h.tape, g.output.trans h.output, Nat.le_trans h.size g.size, fun j hj => ?_⟩
  have hj' : j < b.heap.size := Nat.lt_of_lt_of_le hj h.size
  rcases h.block j hj with h1 | ⟨hB, x, y, f, h1, h2, h3, h4⟩
  · rcases g.block j hj' with g1 | ⟨hB, x', y', f', g1, g2, g3, g4⟩
    · exact .inl (g1.trans h1)
    · exact .inr ⟨hB, x', y', f', h1 ▸ g1, g2, g3, g4⟩
  · rcases g.block j hj' with g1 | ⟨hB, x', y', f', g1, g2, g3, g4⟩
    · exact .inr ⟨hB, x, y, f, h1, g1.trans h2, h3, h4⟩
    · rw [h2] at g1
      cases g1
      exact .inr ⟨hB, x, y', f, h1, g2, g3.trans h3, g4⟩
theorem Grow.of_ext {B : Nat} {T : TypeId} {F : Array Value → Prop} {W W' : World} (h : Ext W W') : Grow B T F W W' := ⟨h.os, h.tape, h.output, h.size, fun j hj => .inl (h.below.block j hj)⟩
theorem Grow.ext {T : TypeId} {F : Array Value → Prop} {w W : World} (h : Grow w.heap.size T F w W) : Ext w W :=
  ⟨h.os, h.tape, h.output, h.size, fun j hj => by
    rcases h.block j hj with h1 | ⟨hB, _⟩
    · exact h1
    · omega⟩
theorem Grow.row {B : Nat} {T : TypeId} {F : Array Value → Prop} {W : World} {g : Nat} {c c' : Array Value} {f : Nat × Nat} (h : W.heap[g]? = some (.cells c T f)) (hB : B ≤ g) (hs : c'.size = c.size) (hF : F c') : Grow B T F W (W.setRow g c') := by
  refine ⟨rfl, rfl, rfl, by simp [World.setRow], fun j hj => ?_⟩
  by_cases e : j = g
  · subst e
    exact .inr ⟨hB, c, c', f, h, setRow_heap W j c c' T f h, hs, hF⟩
  · refine .inl ?_
    simp only [World.setRow, Array.getElem?_modify, if_neg (Ne.symm e)]
/-- a block that is no cells of type T stays -/
theorem Grow.keep {B : Nat} {T : TypeId} {F : Array Value → Prop} {W W' : World} (h : Grow B T F W W') {j : Nat} {o : Obj} (ho : W.heap[j]? = some o) (hn : ∀ c f, o ≠ .cells c T f) : W'.heap[j]? = some o := by
  rcases h.block j (lt_of_block ho) with h1 | ⟨_, x, y, f, h1, _⟩
  · rw [h1]; exact ho
  · rw [ho] at h1; cases h1; exact absurd rfl (hn _ _)
/-- a block below B stays -/
theorem Grow.low {B : Nat} {T : TypeId} {F : Array Value → Prop} {W W' : World} (h : Grow B T F W W') {j : Nat} (hj : j < B) (hw : j < W.heap.size) : W'.heap[j]? = W.heap[j]? := by
  rcases h.block j hw with h1 | ⟨hB, _⟩
  · exact h1
  · omega
/-- a block of cells of type T stays one, of the same size -/
theorem Grow.turn {B : Nat} {T : TypeId} {F : Array Value → Prop} {W W' : World} (h : Grow B T F W W') {j : Nat} {c : Array Value} {f : Nat × Nat} (ho : W.heap[j]? = some (.cells c T f)) : ∃ c', W'.heap[j]? = some (.cells c' T f) ∧ c'.size = c.size := by
  rcases h.block j (lt_of_block ho) with h1 | ⟨_, x, y, f', h1, h2, h3, _⟩
  · exact ⟨c, h1.trans ho, rfl⟩
  · rw [ho] at h1; cases h1; exact ⟨y, h2, h3⟩
/-- a block of which F holds stays one -/
theorem Grow.done {B : Nat} {T : TypeId} {F : Array Value → Prop} {W W' : World} (h : Grow B T F W W') {j : Nat} {c : Array Value} {f : Nat × Nat} (ho : W.heap[j]? = some (.cells c T f)) (hF : F c) : ∃ c', W'.heap[j]? = some (.cells c' T f) ∧ F c' := by
  rcases h.block j (lt_of_block ho) with h1 | ⟨_, x, y, f', h1, h2, _, h4⟩
  · exact ⟨c, h1.trans ho, hF⟩
  · rw [ho] at h1; cases h1; exact ⟨y, h2, h4⟩

/-- a store of a whole row -/
theorem GoesG.store {P : Program} {l : List Oper} {R : World → World → Prop} {Φ : Nat → (Nat → Value) → World → Prop} {i : Nat} {o : Oper} {a' : Act} {W : World} {Q : Exit → Act → World → Prop} (hg : o.guard = none) (ty : TypeId) (x y : Operand) (ho : o.op = .store ty x y)
    (g : Nat) (cells : Array Value) (hx : a'.eval x = .pointer (some ⟨g, 0, none⟩)) (hy : a'.eval y = .agg cells) (t : TypeId) (old : Array Value) (hh : W.heap[g]? = some (.cells old t (0, 0))) (hi : (P.info? ty).map (·.size) = some cells.size)
    (hold : old.size = cells.size) (h1 : cells.all (·.oneCell') = true) (hd : o.dst = none) (hR : R W (W.setRow g cells))
    (hΦ : ∀ s : Nat → Value, (∀ k, k ≠ i → ancB l l.length i k = true → s k = sv l a' k) → Φ i s (W.setRow g cells)) : GoesG P l R Φ i o a' W Q := by
  unfold GoesG
  rw [if_pos (by simp [Region.wanted, hg])]
  exact wp_store_row ty x y ho g cells hx hy t old hh hi hold h1 ⟨undef, rfl, hR, fun s _ h2 => hΦ s h2⟩

end Go.Proofs.YtmokejjndkibhaaGreatDoor

namespace Go.Proofs.YtmokejjndkibhaaGreatDoor
open Go.RowKit
set_option linter.unusedVariables false
set_option linter.unusedSimpArgs false

/-- operator k -/
def opOf (k : Int) : Entry := (opL.find? (fun e => e.k == k)).getD ⟨k, [], 0, 0, 0⟩
def knownB (k : Int) : Bool := decide (3 ≤ k ∧ k ≤ 15)
def opZero : Value := .agg #[sV [], .int .i64 0, .int .i64 0, .int .i64 0, .nilFunc]
theorem thirteen {α : Type} (fs : List α) (h : fs.length = 13) : ∃ f3 f4 f5 f6 f7 f8 f9 f10 f11 f12 f13 f14 f15, fs = [f3, f4, f5, f6, f7, f8, f9, f10, f11, f12, f13, f14, f15] := by
  match fs, h with
  | [f3, f4, f5, f6, f7, f8, f9, f10, f11, f12, f13, f14, f15], _ => exact ⟨f3, f4, f5, f6, f7, f8, f9, f10, f11, f12, f13, f14, f15, rfl⟩
theorem zeroOp (w : World) : (zeroValue 101).run Tryz.prog w = .ok opZero w := by kernel_rfl
theorem ops_find {W : World} {b : Nat} (h : OpsAt W b opL) : ∃ l, MapAt W b l ∧ (∀ k, knownB k = true → ∃ fv, (l.find? (fun p => p.1 == k)).map (·.2) = some ((opOf k).val fv) ∧ FnOk W k fv) ∧ (∀ k, knownB k = false → (l.find? (fun p => p.1 == k)).map (·.2) = none) := by
  obtain ⟨fs, h1, h2, h3⟩ := h
  refine ⟨_, h2, ?_, ?_⟩
  · intro k hk
    obtain ⟨f3, f4, f5, f6, f7, f8, f9, f10, f11, f12, f13, f14, f15, rfl⟩ := thirteen fs h1
    have hk' : 3 ≤ k ∧ k ≤ 15 := by simpa [knownB] using hk
    have hk2 : k = 3 ∨ k = 4 ∨ k = 5 ∨ k = 6 ∨ k = 7 ∨ k = 8 ∨ k = 9 ∨ k = 10 ∨ k = 11 ∨ k = 12 ∨ k = 13 ∨ k = 14 ∨ k = 15 := by omega
    rcases hk2 with rfl | rfl | rfl | rfl | rfl | rfl | rfl | rfl | rfl | rfl | rfl | rfl | rfl
    · exact ⟨f3, rfl, h3 0 (by decide) (by simp)⟩
    · exact ⟨f4, rfl, h3 1 (by decide) (by simp)⟩
    · exact ⟨f5, rfl, h3 2 (by decide) (by simp)⟩
    · exact ⟨f6, rfl, h3 3 (by decide) (by simp)⟩
    · exact ⟨f7, rfl, h3 4 (by decide) (by simp)⟩
    · exact ⟨f8, rfl, h3 5 (by decide) (by simp)⟩
    · exact ⟨f9, rfl, h3 6 (by decide) (by simp)⟩
    · exact ⟨f10, rfl, h3 7 (by decide) (by simp)⟩
    · exact ⟨f11, rfl, h3 8 (by decide) (by simp)⟩
    · exact ⟨f12, rfl, h3 9 (by decide) (by simp)⟩
    · exact ⟨f13, rfl, h3 10 (by decide) (by simp)⟩
    · exact ⟨f14, rfl, h3 11 (by decide) (by simp)⟩
    · exact ⟨f15, rfl, h3 12 (by decide) (by simp)⟩
  · intro k hk
    have hk' : ¬ (3 ≤ k ∧ k ≤ 15) := by simpa [knownB] using hk
    have hn : (List.zipWith (fun (e : Entry) fv => (e.k, e.val fv)) opL fs).find? (fun p => p.1 == k) = none := by
      rw [List.find?_eq_none]
      intro p hp
      obtain ⟨i, hi, rfl⟩ := List.mem_iff_getElem.1 hp
      have hi2 : i < opL.length := by simp at hi; omega
      have he : opL[i].k = (i : Int) + 3 := by
        have : ∀ j : Fin 13, (opL[j.1]'(show j.1 < opL.length from j.2)).k = (j.1 : Int) + 3 := by decide
        exact this ⟨i, hi2⟩
      have hi3 : i < 13 := hi2
      simp [he]
      omega
    rw [hn]; rfl
/-- a look-up of a known operator -/
theorem ops_yes {W : World} {b : Nat} (h : OpsAt W b opL) (k : Int) (hk : knownB k = true) : ∃ fv, FnOk W k fv ∧ ∀ c, (Instr.lookup 102 (.map (some b)) (.int .i64 k) c).run Tryz.prog W = .ok (if c then .tuple #[(opOf k).val fv, .bool true] else (opOf k).val fv) W := by
  obtain ⟨l, ⟨es, cl, hb, hl⟩, h1, _⟩ := ops_find h
  obtain ⟨fv, hf, ho⟩ := h1 k hk
  refine ⟨fv, ho, fun c => ?_⟩
  rw [run_lookup_int Tryz.underlying102 Tryz.underlying3 hb hl opZero (zeroOp W) k c, hf]
  rfl
theorem ops_no {W : World} {b : Nat} (h : OpsAt W b opL) (k : Int) (hk : knownB k = false) : ∀ c, (Instr.lookup 102 (.map (some b)) (.int .i64 k) c).run Tryz.prog W = .ok (if c then .tuple #[opZero, .bool false] else opZero) W := by
  obtain ⟨l, ⟨es, cl, hb, hl⟩, _, h2⟩ := ops_find h
  intro c
  rw [run_lookup_int Tryz.underlying102 Tryz.underlying3 hb hl opZero (zeroOp W) k c, h2 k hk]
  rfl
/-- the map stays where blocks of other types turn -/
theorem OpsAt.grow {w W : World} {b : Nat} {L : List Entry} {B : Nat} {T : TypeId} {F : Array Value → Prop} (h : OpsAt w b L) (hG : Grow B T F w W) (h1 : T ≠ tNum) (h2 : T ≠ tTru) : OpsAt W b L := by
  obtain ⟨fs, h3, ⟨es, c, h4, h5⟩, h6⟩ := h
  refine ⟨fs, h3, ⟨es, c, hG.keep h4 (by intro _ _ e; cases e), h5⟩, fun i hi hi' => (h6 i hi hi').keep (fun g v t ht ho => hG.keep ho ?_)⟩
  intro c f e
  cases e
  rcases ht with h | h
  · exact h1 h
  · exact h2 h
theorem FnOk.grow {w W : World} {k : Int} {fv : Value} {B : Nat} {T : TypeId} {F : Array Value → Prop} (h : FnOk w k fv) (hG : Grow B T F w W) (h1 : T ≠ tNum) (h2 : T ≠ tTru) : FnOk W k fv :=
  h.keep (fun g v t ht ho => hG.keep ho (by
    intro c f e
    cases e
    rcases ht with h | h
    · exact h1 h
    · exact h2 h))

end Go.Proofs.YtmokejjndkibhaaGreatDoor

namespace Go.Proofs.YtmokejjndkibhaaGreatDoor
open Go.RowKit
set_option linter.unusedVariables false
set_option linter.unusedSimpArgs false
open Ex

def arity (k : Int) : Nat := if k = 3 then 1 else if k = 4 then 2 else 0
/-- why a part alone is not valid -/
def pc' (k o : Int) (n : List UInt8) (v : Int) (m : Nat) : Int :=
  if k < 1 ∨ 4 < k then 8
  else if (k ≠ 1 ∧ v ≠ 0) ∨ (k ≠ 2 ∧ n ≠ []) ∨ (k ≤ 2 ∧ o ≠ 0) ∨ m ≠ arity k then 1
  else if v < 0 ∨ 1099511627776 < v then 2
  else if k = 2 ∧ isNm n = false then 5
  else if (k = 3 ∧ o ≠ 1 ∧ o ≠ 2) ∨ (k = 4 ∧ (o < 3 ∨ 15 < o)) then 8
  else 0
def pc (e : Ex) : Int := pc' e.kind e.op e.name e.value e.args.length

set_option maxRecDepth 100000 in
set_option maxHeartbeats 4000000 in
theorem part_K1a (k o : Int) (n : List UInt8) (v : Int) (p : Option Addr) (m c : Nat) (w : World) (hn0 : n.length ≤ 140737488355328) (hm0 : m ≤ 2199023255488) (hn : ¬ n = []) :
    Gives Tryz.prog 98 #[.agg #[.int .i64 1, .int .i64 o, sV n, .int .i64 v, .slice p m c]] w (.int .i64 1) := by
  unfold Gives
  have hn1 : n.isEmpty = false := by simpa using hn
  go_enter Tryz.func98, Tryz.ntmps98
  go_wp2
  go_quiet (fail)
  go_wp2
  go_ret
  exact ⟨rfl, Ext.drewN' ((Below.refl _ w).alloc (Nat.le_refl _) _)⟩

set_option maxRecDepth 100000 in
set_option maxHeartbeats 4000000 in
theorem part_K1b (k o : Int) (n : List UInt8) (v : Int) (p : Option Addr) (m c : Nat) (w : World) (hn0 : n.length ≤ 140737488355328) (hm0 : m ≤ 2199023255488) (ho : o ≠ 0) :
    Gives Tryz.prog 98 #[.agg #[.int .i64 1, .int .i64 o, sV [], .int .i64 v, .slice p m c]] w (.int .i64 1) := by
  unfold Gives
  have hoa : ((o : Int) == 0) = false := by rw [beq_eq_false_iff_ne]; omega
  have hob : ((o : Int) != 0) = true := by rw [bne_iff_ne]; omega
  go_enter Tryz.func98, Tryz.ntmps98
  go_wp2
  go_quiet (fail)
  go_wp2
  go_ret
  exact ⟨rfl, Ext.drewN' ((Below.refl _ w).alloc (Nat.le_refl _) _)⟩

set_option maxRecDepth 100000 in
set_option maxHeartbeats 4000000 in
theorem part_K1c (k o : Int) (n : List UInt8) (v : Int) (p : Option Addr) (m c : Nat) (w : World) (hn0 : n.length ≤ 140737488355328) (hm0 : m ≤ 2199023255488) (hm : m ≠ 0) :
    Gives Tryz.prog 98 #[.agg #[.int .i64 1, .int .i64 0, sV [], .int .i64 v, .slice p m c]] w (.int .i64 1) := by
  unfold Gives
  have hma : ((m : Int) == 0) = false := by rw [beq_eq_false_iff_ne]; omega
  have hmb : ((m : Int) != 0) = true := by rw [bne_iff_ne]; omega
  go_enter Tryz.func98, Tryz.ntmps98
  go_wp2
  go_quiet (fail)
  go_wp2
  go_ret
  exact ⟨rfl, Ext.drewN' ((Below.refl _ w).alloc (Nat.le_refl _) _)⟩

set_option maxRecDepth 100000 in
set_option maxHeartbeats 4000000 in
theorem part_K1d (k o : Int) (n : List UInt8) (v : Int) (p : Option Addr) (m c : Nat) (w : World) (hn0 : n.length ≤ 140737488355328) (hm0 : m ≤ 2199023255488) (hv : v < 0) :
    Gives Tryz.prog 98 #[.agg #[.int .i64 1, .int .i64 0, sV [], .int .i64 v, .slice p 0 c]] w (.int .i64 2) := by
  unfold Gives
  go_enter Tryz.func98, Tryz.ntmps98
  go_wp2
  go_quiet (fail)
  go_wp2
  go_ret
  exact ⟨rfl, Ext.drewN' ((Below.refl _ w).alloc (Nat.le_refl _) _)⟩

set_option maxRecDepth 100000 in
set_option maxHeartbeats 4000000 in
theorem part_K1e (k o : Int) (n : List UInt8) (v : Int) (p : Option Addr) (m c : Nat) (w : World) (hn0 : n.length ≤ 140737488355328) (hm0 : m ≤ 2199023255488) (hv : 1099511627776 < v) :
    Gives Tryz.prog 98 #[.agg #[.int .i64 1, .int .i64 0, sV [], .int .i64 v, .slice p 0 c]] w (.int .i64 2) := by
  unfold Gives
  have hv0 : ¬ v < 0 := by omega
  go_enter Tryz.func98, Tryz.ntmps98
  go_wp2
  go_quiet (fail)
  go_wp2
  go_ret
  exact ⟨rfl, Ext.drewN' ((Below.refl _ w).alloc (Nat.le_refl _) _)⟩

set_option maxRecDepth 100000 in
set_option maxHeartbeats 4000000 in
theorem part_K1f (k o : Int) (n : List UInt8) (v : Int) (p : Option Addr) (m c : Nat) (w : World) (hn0 : n.length ≤ 140737488355328) (hm0 : m ≤ 2199023255488) (hv : ¬ v < 0) (hw : ¬ 1099511627776 < v) :
    Gives Tryz.prog 98 #[.agg #[.int .i64 1, .int .i64 0, sV [], .int .i64 v, .slice p 0 c]] w (.int .i64 0) := by
  unfold Gives
  go_enter Tryz.func98, Tryz.ntmps98
  go_wp2
  go_quiet (fail)
  go_wp2
  go_ret
  exact ⟨rfl, Ext.drewN' ((Below.refl _ w).alloc (Nat.le_refl _) _)⟩

set_option maxRecDepth 100000 in
set_option maxHeartbeats 4000000 in
theorem part_K2a (k o : Int) (n : List UInt8) (v : Int) (p : Option Addr) (m c : Nat) (w : World) (hn0 : n.length ≤ 140737488355328) (hm0 : m ≤ 2199023255488) (hv : v ≠ 0) :
    Gives Tryz.prog 98 #[.agg #[.int .i64 2, .int .i64 o, sV n, .int .i64 v, .slice p m c]] w (.int .i64 1) := by
  unfold Gives
  have hva : ((v : Int) == 0) = false := by rw [beq_eq_false_iff_ne]; omega
  have hvb : ((v : Int) != 0) = true := by rw [bne_iff_ne]; omega
  go_enter Tryz.func98, Tryz.ntmps98
  go_wp2
  go_quiet (fail)
  go_wp2
  go_ret
  exact ⟨rfl, Ext.drewN' ((Below.refl _ w).alloc (Nat.le_refl _) _)⟩

set_option maxRecDepth 100000 in
set_option maxHeartbeats 4000000 in
theorem part_K2b (k o : Int) (n : List UInt8) (v : Int) (p : Option Addr) (m c : Nat) (w : World) (hn0 : n.length ≤ 140737488355328) (hm0 : m ≤ 2199023255488) (ho : o ≠ 0) :
    Gives Tryz.prog 98 #[.agg #[.int .i64 2, .int .i64 o, sV n, .int .i64 0, .slice p m c]] w (.int .i64 1) := by
  unfold Gives
  have hoa : ((o : Int) == 0) = false := by rw [beq_eq_false_iff_ne]; omega
  have hob : ((o : Int) != 0) = true := by rw [bne_iff_ne]; omega
  go_enter Tryz.func98, Tryz.ntmps98
  go_wp2
  go_quiet (fail)
  go_wp2
  go_ret
  exact ⟨rfl, Ext.drewN' ((Below.refl _ w).alloc (Nat.le_refl _) _)⟩

set_option maxRecDepth 100000 in
set_option maxHeartbeats 4000000 in
theorem part_K2c (k o : Int) (n : List UInt8) (v : Int) (p : Option Addr) (m c : Nat) (w : World) (hn0 : n.length ≤ 140737488355328) (hm0 : m ≤ 2199023255488) (hm : m ≠ 0) :
    Gives Tryz.prog 98 #[.agg #[.int .i64 2, .int .i64 0, sV n, .int .i64 0, .slice p m c]] w (.int .i64 1) := by
  unfold Gives
  have hma : ((m : Int) == 0) = false := by rw [beq_eq_false_iff_ne]; omega
  have hmb : ((m : Int) != 0) = true := by rw [bne_iff_ne]; omega
  go_enter Tryz.func98, Tryz.ntmps98
  go_wp2
  go_quiet (fail)
  go_wp2
  go_ret
  exact ⟨rfl, Ext.drewN' ((Below.refl _ w).alloc (Nat.le_refl _) _)⟩

set_option maxRecDepth 100000 in
set_option maxHeartbeats 4000000 in
theorem part_K2d (k o : Int) (n : List UInt8) (v : Int) (p : Option Addr) (m c : Nat) (w : World) (hn0 : n.length ≤ 140737488355328) (hm0 : m ≤ 2199023255488) (hq : isNm n = false) :
    Gives Tryz.prog 98 #[.agg #[.int .i64 2, .int .i64 0, sV n, .int .i64 0, .slice p 0 c]] w (.int .i64 5) := by
  unfold Gives
  have L := Lib.hid (fun W => IsName_any n W)
  rw [hq] at L
  go_enter Tryz.func98, Tryz.ntmps98
  go_wp2
  go_quiet (fail)
  go_wp2_with fail
  refine (L.out _).mono ?_
  intro w2 hB
  obtain ⟨b0, b1, b2, b3, b4, hW⟩ := Ext.box (Ext.undrewN hB)
  clear hB
  have HW := Lib.hid hW
  clear hW
  go_wp2
  go_ret
  exact ⟨rfl, HW.out⟩

set_option maxRecDepth 100000 in
set_option maxHeartbeats 4000000 in
theorem part_K2e (k o : Int) (n : List UInt8) (v : Int) (p : Option Addr) (m c : Nat) (w : World) (hn0 : n.length ≤ 140737488355328) (hm0 : m ≤ 2199023255488) (hq : isNm n = true) :
    Gives Tryz.prog 98 #[.agg #[.int .i64 2, .int .i64 0, sV n, .int .i64 0, .slice p 0 c]] w (.int .i64 0) := by
  unfold Gives
  have L := Lib.hid (fun W => IsName_any n W)
  rw [hq] at L
  go_enter Tryz.func98, Tryz.ntmps98
  go_wp2
  go_quiet (fail)
  go_wp2_with fail
  refine (L.out _).mono ?_
  intro w2 hB
  obtain ⟨b0, b1, b2, b3, b4, hW⟩ := Ext.box (Ext.undrewN hB)
  clear hB
  have HW := Lib.hid hW
  clear hW
  go_wp2
  go_ret
  exact ⟨rfl, HW.out⟩

set_option maxRecDepth 100000 in
set_option maxHeartbeats 4000000 in
theorem part_K3a (k o : Int) (n : List UInt8) (v : Int) (p : Option Addr) (m c : Nat) (w : World) (hn0 : n.length ≤ 140737488355328) (hm0 : m ≤ 2199023255488) (hv : v ≠ 0) :
    Gives Tryz.prog 98 #[.agg #[.int .i64 3, .int .i64 o, sV n, .int .i64 v, .slice p m c]] w (.int .i64 1) := by
  unfold Gives
  have hva : ((v : Int) == 0) = false := by rw [beq_eq_false_iff_ne]; omega
  have hvb : ((v : Int) != 0) = true := by rw [bne_iff_ne]; omega
  go_enter Tryz.func98, Tryz.ntmps98
  go_wp2
  go_quiet (fail)
  go_wp2
  go_ret
  exact ⟨rfl, Ext.drewN' ((Below.refl _ w).alloc (Nat.le_refl _) _)⟩

set_option maxRecDepth 100000 in
set_option maxHeartbeats 4000000 in
theorem part_K3b (k o : Int) (n : List UInt8) (v : Int) (p : Option Addr) (m c : Nat) (w : World) (hn0 : n.length ≤ 140737488355328) (hm0 : m ≤ 2199023255488) (hn : ¬ n = []) :
    Gives Tryz.prog 98 #[.agg #[.int .i64 3, .int .i64 o, sV n, .int .i64 0, .slice p m c]] w (.int .i64 1) := by
  unfold Gives
  have hn1 : n.isEmpty = false := by simpa using hn
  go_enter Tryz.func98, Tryz.ntmps98
  go_wp2
  go_quiet (fail)
  go_wp2
  go_ret
  exact ⟨rfl, Ext.drewN' ((Below.refl _ w).alloc (Nat.le_refl _) _)⟩

set_option maxRecDepth 100000 in
set_option maxHeartbeats 4000000 in
theorem part_K3c (k o : Int) (n : List UInt8) (v : Int) (p : Option Addr) (m c : Nat) (w : World) (hn0 : n.length ≤ 140737488355328) (hm0 : m ≤ 2199023255488) (hm : m ≠ 1) :
    Gives Tryz.prog 98 #[.agg #[.int .i64 3, .int .i64 o, sV [], .int .i64 0, .slice p m c]] w (.int .i64 1) := by
  unfold Gives
  have hma : ((m : Int) == 1) = false := by rw [beq_eq_false_iff_ne]; omega
  have hmb : ((m : Int) != 1) = true := by rw [bne_iff_ne]; omega
  go_enter Tryz.func98, Tryz.ntmps98
  go_wp2
  go_quiet (fail)
  go_wp2
  go_ret
  exact ⟨rfl, Ext.drewN' ((Below.refl _ w).alloc (Nat.le_refl _) _)⟩

set_option maxRecDepth 100000 in
set_option maxHeartbeats 4000000 in
theorem part_K4a (k o : Int) (n : List UInt8) (v : Int) (p : Option Addr) (m c : Nat) (w : World) (hn0 : n.length ≤ 140737488355328) (hm0 : m ≤ 2199023255488) (hv : v ≠ 0) :
    Gives Tryz.prog 98 #[.agg #[.int .i64 4, .int .i64 o, sV n, .int .i64 v, .slice p m c]] w (.int .i64 1) := by
  unfold Gives
  have hva : ((v : Int) == 0) = false := by rw [beq_eq_false_iff_ne]; omega
  have hvb : ((v : Int) != 0) = true := by rw [bne_iff_ne]; omega
  go_enter Tryz.func98, Tryz.ntmps98
  go_wp2
  go_quiet (fail)
  go_wp2
  go_ret
  exact ⟨rfl, Ext.drewN' ((Below.refl _ w).alloc (Nat.le_refl _) _)⟩

set_option maxRecDepth 100000 in
set_option maxHeartbeats 4000000 in
theorem part_K4b (k o : Int) (n : List UInt8) (v : Int) (p : Option Addr) (m c : Nat) (w : World) (hn0 : n.length ≤ 140737488355328) (hm0 : m ≤ 2199023255488) (hn : ¬ n = []) :
    Gives Tryz.prog 98 #[.agg #[.int .i64 4, .int .i64 o, sV n, .int .i64 0, .slice p m c]] w (.int .i64 1) := by
  unfold Gives
  have hn1 : n.isEmpty = false := by simpa using hn
  go_enter Tryz.func98, Tryz.ntmps98
  go_wp2
  go_quiet (fail)
  go_wp2
  go_ret
  exact ⟨rfl, Ext.drewN' ((Below.refl _ w).alloc (Nat.le_refl _) _)⟩

set_option maxRecDepth 100000 in
set_option maxHeartbeats 4000000 in
theorem part_K4c (k o : Int) (n : List UInt8) (v : Int) (p : Option Addr) (m c : Nat) (w : World) (hn0 : n.length ≤ 140737488355328) (hm0 : m ≤ 2199023255488) (hm : m ≠ 2) :
    Gives Tryz.prog 98 #[.agg #[.int .i64 4, .int .i64 o, sV [], .int .i64 0, .slice p m c]] w (.int .i64 1) := by
  unfold Gives
  have hma : ((m : Int) == 2) = false := by rw [beq_eq_false_iff_ne]; omega
  have hmb : ((m : Int) != 2) = true := by rw [bne_iff_ne]; omega
  go_enter Tryz.func98, Tryz.ntmps98
  go_wp2
  go_quiet (fail)
  go_wp2
  go_ret
  exact ⟨rfl, Ext.drewN' ((Below.refl _ w).alloc (Nat.le_refl _) _)⟩

set_option maxRecDepth 100000 in
set_option maxHeartbeats 4000000 in
theorem part_K3d (k o : Int) (n : List UInt8) (v : Int) (p : Option Addr) (m c : Nat) (w : World) (hn0 : n.length ≤ 140737488355328) (hm0 : m ≤ 2199023255488) :
    Gives Tryz.prog 98 #[.agg #[.int .i64 3, .int .i64 1, sV [], .int .i64 0, .slice p 1 c]] w (.int .i64 0) := by
  unfold Gives
  go_enter Tryz.func98, Tryz.ntmps98
  go_wp2
  go_quiet (fail)
  go_wp2
  go_ret
  exact ⟨rfl, Ext.drewN' ((Below.refl _ w).alloc (Nat.le_refl _) _)⟩

set_option maxRecDepth 100000 in
set_option maxHeartbeats 4000000 in
theorem part_K3e (k o : Int) (n : List UInt8) (v : Int) (p : Option Addr) (m c : Nat) (w : World) (hn0 : n.length ≤ 140737488355328) (hm0 : m ≤ 2199023255488) :
    Gives Tryz.prog 98 #[.agg #[.int .i64 3, .int .i64 2, sV [], .int .i64 0, .slice p 1 c]] w (.int .i64 0) := by
  unfold Gives
  go_enter Tryz.func98, Tryz.ntmps98
  go_wp2
  go_quiet (fail)
  go_wp2
  go_ret
  exact ⟨rfl, Ext.drewN' ((Below.refl _ w).alloc (Nat.le_refl _) _)⟩

set_option maxRecDepth 100000 in
set_option maxHeartbeats 4000000 in
theorem part_K3f (k o : Int) (n : List UInt8) (v : Int) (p : Option Addr) (m c : Nat) (w : World) (hn0 : n.length ≤ 140737488355328) (hm0 : m ≤ 2199023255488) (ho : o ≠ 1) (hp : o ≠ 2) :
    Gives Tryz.prog 98 #[.agg #[.int .i64 3, .int .i64 o, sV [], .int .i64 0, .slice p 1 c]] w (.int .i64 8) := by
  unfold Gives
  have hoa : ((o : Int) == 1) = false := by rw [beq_eq_false_iff_ne]; omega
  have hob : ((o : Int) != 1) = true := by rw [bne_iff_ne]; omega
  have hpa : ((o : Int) == 2) = false := by rw [beq_eq_false_iff_ne]; omega
  have hpb : ((o : Int) != 2) = true := by rw [bne_iff_ne]; omega
  go_enter Tryz.func98, Tryz.ntmps98
  go_wp2
  go_quiet (fail)
  go_wp2
  go_ret
  exact ⟨rfl, Ext.drewN' ((Below.refl _ w).alloc (Nat.le_refl _) _)⟩

set_option maxRecDepth 100000 in
set_option maxHeartbeats 4000000 in
theorem part_K4d (k o : Int) (n : List UInt8) (v : Int) (p : Option Addr) (m c : Nat) (w : World) (hn0 : n.length ≤ 140737488355328) (hm0 : m ≤ 2199023255488) (ho : o < 3) :
    Gives Tryz.prog 98 #[.agg #[.int .i64 4, .int .i64 o, sV [], .int .i64 0, .slice p 2 c]] w (.int .i64 8) := by
  unfold Gives
  go_enter Tryz.func98, Tryz.ntmps98
  go_wp2
  go_quiet (fail)
  go_wp2
  go_ret
  exact ⟨rfl, Ext.drewN' ((Below.refl _ w).alloc (Nat.le_refl _) _)⟩

set_option maxRecDepth 100000 in
set_option maxHeartbeats 4000000 in
theorem part_K4e (k o : Int) (n : List UInt8) (v : Int) (p : Option Addr) (m c : Nat) (w : World) (hn0 : n.length ≤ 140737488355328) (hm0 : m ≤ 2199023255488) (ho : 15 < o) :
    Gives Tryz.prog 98 #[.agg #[.int .i64 4, .int .i64 o, sV [], .int .i64 0, .slice p 2 c]] w (.int .i64 8) := by
  unfold Gives
  have ho3 : ¬ o < 3 := by omega
  go_enter Tryz.func98, Tryz.ntmps98
  go_wp2
  go_quiet (fail)
  go_wp2
  go_ret
  exact ⟨rfl, Ext.drewN' ((Below.refl _ w).alloc (Nat.le_refl _) _)⟩

set_option maxRecDepth 100000 in
set_option maxHeartbeats 4000000 in
theorem part_K4f (k o : Int) (n : List UInt8) (v : Int) (p : Option Addr) (m c : Nat) (w : World) (hn0 : n.length ≤ 140737488355328) (hm0 : m ≤ 2199023255488) (ho : ¬ o < 3) (hp : ¬ 15 < o) :
    Gives Tryz.prog 98 #[.agg #[.int .i64 4, .int .i64 o, sV [], .int .i64 0, .slice p 2 c]] w (.int .i64 0) := by
  unfold Gives
  go_enter Tryz.func98, Tryz.ntmps98
  go_wp2
  go_quiet (fail)
  go_wp2
  go_ret
  exact ⟨rfl, Ext.drewN' ((Below.refl _ w).alloc (Nat.le_refl _) _)⟩

set_option maxRecDepth 100000 in
set_option maxHeartbeats 4000000 in
theorem part_KL (k o : Int) (n : List UInt8) (v : Int) (p : Option Addr) (m c : Nat) (w : World) (hn0 : n.length ≤ 140737488355328) (hm0 : m ≤ 2199023255488) (hk : k < 1) :
    Gives Tryz.prog 98 #[.agg #[.int .i64 k, .int .i64 o, sV n, .int .i64 v, .slice p m c]] w (.int .i64 8) := by
  unfold Gives
  go_enter Tryz.func98, Tryz.ntmps98
  go_wp2
  go_ret
  exact ⟨rfl, (Below.refl _ w).alloc (Nat.le_refl _) _⟩

set_option maxRecDepth 100000 in
set_option maxHeartbeats 4000000 in
theorem part_KG (k o : Int) (n : List UInt8) (v : Int) (p : Option Addr) (m c : Nat) (w : World) (hn0 : n.length ≤ 140737488355328) (hm0 : m ≤ 2199023255488) (hk : 4 < k) :
    Gives Tryz.prog 98 #[.agg #[.int .i64 k, .int .i64 o, sV n, .int .i64 v, .slice p m c]] w (.int .i64 8) := by
  unfold Gives
  have hk1 : ¬ k < 1 := by omega
  go_enter Tryz.func98, Tryz.ntmps98
  go_wp2
  go_ret
  exact ⟨rfl, (Below.refl _ w).alloc (Nat.le_refl _) _⟩

end Go.Proofs.YtmokejjndkibhaaGreatDoor

namespace Go.Proofs.YtmokejjndkibhaaGreatDoor
open Go.RowKit
set_option linter.unusedVariables false
set_option linter.unusedSimpArgs false
open Ex

theorem pc_ind {Q : Int → Int → List UInt8 → Int → Nat → Int → Prop}
    (K1a : ∀ (o : Int) (n : List UInt8) (v : Int) (m : Nat) (_ : ¬ n = []), Q 1 o n v m 1)
    (K1b : ∀ (o : Int) (v : Int) (m : Nat) (_ : o ≠ 0), Q 1 o [] v m 1)
    (K1c : ∀ (v : Int) (m : Nat) (_ : m ≠ 0), Q 1 0 [] v m 1)
    (K1d : ∀ (v : Int) (_ : v < 0), Q 1 0 [] v 0 2)
    (K1e : ∀ (v : Int) (_ : 1099511627776 < v), Q 1 0 [] v 0 2)
    (K1f : ∀ (v : Int) (_ : ¬ v < 0) (_ : ¬ 1099511627776 < v), Q 1 0 [] v 0 0)
    (K2a : ∀ (o : Int) (n : List UInt8) (v : Int) (m : Nat) (_ : v ≠ 0), Q 2 o n v m 1)
    (K2b : ∀ (o : Int) (n : List UInt8) (m : Nat) (_ : o ≠ 0), Q 2 o n 0 m 1)
    (K2c : ∀ (n : List UInt8) (m : Nat) (_ : m ≠ 0), Q 2 0 n 0 m 1)
    (K2d : ∀ (n : List UInt8) (_ : isNm n = false), Q 2 0 n 0 0 5)
    (K2e : ∀ (n : List UInt8) (_ : isNm n = true), Q 2 0 n 0 0 0)
    (K3a : ∀ (o : Int) (n : List UInt8) (v : Int) (m : Nat) (_ : v ≠ 0), Q 3 o n v m 1)
    (K3b : ∀ (o : Int) (n : List UInt8) (m : Nat) (_ : ¬ n = []), Q 3 o n 0 m 1)
    (K3c : ∀ (o : Int) (m : Nat) (_ : m ≠ 1), Q 3 o [] 0 m 1)
    (K4a : ∀ (o : Int) (n : List UInt8) (v : Int) (m : Nat) (_ : v ≠ 0), Q 4 o n v m 1)
    (K4b : ∀ (o : Int) (n : List UInt8) (m : Nat) (_ : ¬ n = []), Q 4 o n 0 m 1)
    (K4c : ∀ (o : Int) (m : Nat) (_ : m ≠ 2), Q 4 o [] 0 m 1)
    (K3d : ∀ (_ : Unit), Q 3 1 [] 0 1 0)
    (K3e : ∀ (_ : Unit), Q 3 2 [] 0 1 0)
    (K3f : ∀ (o : Int) (_ : o ≠ 1) (_ : o ≠ 2), Q 3 o [] 0 1 8)
    (K4d : ∀ (o : Int) (_ : o < 3), Q 4 o [] 0 2 8)
    (K4e : ∀ (o : Int) (_ : 15 < o), Q 4 o [] 0 2 8)
    (K4f : ∀ (o : Int) (_ : ¬ o < 3) (_ : ¬ 15 < o), Q 4 o [] 0 2 0)
    (KL : ∀ (k : Int) (o : Int) (n : List UInt8) (v : Int) (m : Nat) (_ : k < 1), Q k o n v m 8)
    (KG : ∀ (k : Int) (o : Int) (n : List UInt8) (v : Int) (m : Nat) (_ : 4 < k), Q k o n v m 8) : ∀ k o n v m, Q k o n v m (pc' k o n v m) := by
  intro k o n v m
  have S : ∀ r, pc' k o n v m = r → Q k o n v m r → Q k o n v m (pc' k o n v m) := fun r h hq => h ▸ hq
  by_cases k1 : k < 1
  · exact S 8 (by simp [pc', k1]) (KL k o n v m k1)
  by_cases k4 : 4 < k
  · exact S 8 (by simp [pc', k4]) (KG k o n v m k4)
  obtain rfl | rfl | rfl | rfl : k = 1 ∨ k = 2 ∨ k = 3 ∨ k = 4 := by omega
  · by_cases hn : n = []
    · subst hn
      by_cases ho : o = 0
      · subst ho
        by_cases hm : m = 0
        · subst hm
          by_cases hv : v < 0
          · exact S 2 (by simp [pc', arity, hv]) (K1d v hv)
          · by_cases hw : 1099511627776 < v
            · exact S 2 (by simp [pc', arity, hw]) (K1e v hw)
            · exact S 0 (by simp [pc', arity, hv, hw]) (K1f v hv hw)
        · exact S 1 (by simp [pc', arity, hm]) (K1c v m hm)
      · exact S 1 (by simp [pc', ho]) (K1b o v m ho)
    · exact S 1 (by simp [pc', hn]) (K1a o n v m hn)
  · by_cases hv : v = 0
    · subst hv
      by_cases ho : o = 0
      · subst ho
        by_cases hm : m = 0
        · subst hm
          cases hq : isNm n with
          | true => exact S 0 (by simp [pc', arity, hq]) (K2e n hq)
          | false => exact S 5 (by simp [pc', arity, hq]) (K2d n hq)
        · exact S 1 (by simp [pc', arity, hm]) (K2c n m hm)
      · exact S 1 (by simp [pc', ho]) (K2b o n m ho)
    · exact S 1 (by simp [pc', hv]) (K2a o n v m hv)
  · by_cases hv : v = 0
    · subst hv
      by_cases hn : n = []
      · subst hn
        by_cases hm : m = 1
        · subst hm
          by_cases h1 : o = 1
          · subst h1; exact S 0 (by simp [pc', arity]) (K3d ())
          · by_cases h2 : o = 2
            · subst h2; exact S 0 (by simp [pc', arity]) (K3e ())
            · exact S 8 (by simp [pc', arity, h1, h2]) (K3f o h1 h2)
        · exact S 1 (by simp [pc', arity, hm]) (K3c o m hm)
      · exact S 1 (by simp [pc', hn]) (K3b o n m hn)
    · exact S 1 (by simp [pc', hv]) (K3a o n v m hv)
  · by_cases hv : v = 0
    · subst hv
      by_cases hn : n = []
      · subst hn
        by_cases hm : m = 2
        · subst hm
          by_cases h1 : o < 3
          · exact S 8 (by simp [pc', arity, h1]) (K4d o h1)
          · by_cases h2 : 15 < o
            · exact S 8 (by simp [pc', arity, h2]) (K4e o h2)
            · exact S 0 (by simp [pc', arity, h1, h2]) (K4f o h1 h2)
        · exact S 1 (by simp [pc', arity, hm]) (K4c o m hm)
      · exact S 1 (by simp [pc', hn]) (K4b o n m hn)
    · exact S 1 (by simp [pc', hv]) (K4a o n v m hv)

theorem part_any (e : Ex) (p : Option Addr) (c : Nat) (w : World) (hf : fits e) : Gives Tryz.prog 98 #[e.val p c] w (.int .i64 (pc e)) := by
  have h3 := hf.2.2.1
  have h5 := hf.2.2.2.2
  show Gives _ _ #[.agg #[.int .i64 e.kind, .int .i64 e.op, sV e.name, .int .i64 e.value, .slice p e.args.length c]] _ _
  unfold pc
  refine pc_ind (Q := fun k o n v m r => n.length ≤ 140737488355328 → m ≤ 2199023255488 → Gives Tryz.prog 98 #[.agg #[.int .i64 k, .int .i64 o, sV n, .int .i64 v, .slice p m c]] w (.int .i64 r))
    (fun o n v m h0 a b => part_K1a 0 o n v p m c w a b h0)
    (fun o v m h0 a b => part_K1b 0 o [] v p m c w (by simp) b h0)
    (fun v m h0 a b => part_K1c 0 0 [] v p m c w (by simp) b h0)
    (fun v h0 a b => part_K1d 0 0 [] v p 0 c w (by simp) (by omega) h0)
    (fun v h0 a b => part_K1e 0 0 [] v p 0 c w (by simp) (by omega) h0)
    (fun v h0 h1 a b => part_K1f 0 0 [] v p 0 c w (by simp) (by omega) h0 h1)
    (fun o n v m h0 a b => part_K2a 0 o n v p m c w a b h0)
    (fun o n m h0 a b => part_K2b 0 o n 0 p m c w a b h0)
    (fun n m h0 a b => part_K2c 0 0 n 0 p m c w a b h0)
    (fun n h0 a b => part_K2d 0 0 n 0 p 0 c w a (by omega) h0)
    (fun n h0 a b => part_K2e 0 0 n 0 p 0 c w a (by omega) h0)
    (fun o n v m h0 a b => part_K3a 0 o n v p m c w a b h0)
    (fun o n m h0 a b => part_K3b 0 o n 0 p m c w a b h0)
    (fun o m h0 a b => part_K3c 0 o [] 0 p m c w (by simp) b h0)
    (fun o n v m h0 a b => part_K4a 0 o n v p m c w a b h0)
    (fun o n m h0 a b => part_K4b 0 o n 0 p m c w a b h0)
    (fun o m h0 a b => part_K4c 0 o [] 0 p m c w (by simp) b h0)
    (fun _ a b => part_K3d 0 0 [] 0 p 0 c w (by simp) (by omega) )
    (fun _ a b => part_K3e 0 0 [] 0 p 0 c w (by simp) (by omega) )
    (fun o h0 h1 a b => part_K3f 0 o [] 0 p 0 c w (by simp) (by omega) h0 h1)
    (fun o h0 a b => part_K4d 0 o [] 0 p 0 c w (by simp) (by omega) h0)
    (fun o h0 a b => part_K4e 0 o [] 0 p 0 c w (by simp) (by omega) h0)
    (fun o h0 h1 a b => part_K4f 0 o [] 0 p 0 c w (by simp) (by omega) h0 h1)
    (fun k o n v m h0 a b => part_KL k o n v p m c w a b h0)
    (fun k o n v m h0 a b => part_KG k o n v p m c w a b h0)
    e.kind e.op e.name e.value e.args.length h3 h5

end Go.Proofs.YtmokejjndkibhaaGreatDoor

namespace Go.Proofs.YtmokejjndkibhaaGreatDoor
open Go.RowKit
set_option linter.unusedVariables false
set_option linter.unusedSimpArgs false

abbrev tEx : TypeId := 25
abbrev tInt : TypeId := 3
def exC (k o : Int) (nm : List UInt8) (v : Int) (p : Option Addr) (m c : Nat) : Array Value := #[.int .i64 k, .int .i64 o, sV nm, .int .i64 v, .slice p m c]
def arC : Array Value := #[.int .i64 0, .int .i64 0, .int .i64 0, .int .i64 1, .int .i64 2]
/-- the values of the region that copies an expression and looks up its arity -/
def ck3 (B : Nat) (k : Nat) (X : Array Value) : Nat → (Nat → Value) → World → Prop
  | 0, s, _ => s 0 = .agg X
  | 1, s, W => ∃ g, s 1 = .slice (some ⟨g, 0, none⟩) 5 5 ∧ W.heap[g]? = some (.cells arC tInt (0, 0))
  | 2, s, _ => s 2 = .pointer (some ⟨B, 0, none⟩)
  | 3, s, _ => s 3 = .int .i64 (k : Int)
  | 4, s, W => ∃ g, s 4 = .pointer (some ⟨g, k, none⟩) ∧ W.heap[g]? = some (.cells arC tInt (0, 0))
  | 5, s, _ => s 5 = .int .i64 (arity (k : Int) : Nat)
  | 6, s, W => ∃ g cc, s 6 = .pointer (some ⟨g, 0, none⟩) ∧ B < g ∧ W.heap[g]? = some (.cells cc tEx (0, 0)) ∧ cc.size = 5
  | 7, s, W => ∃ g cc, s 6 = .pointer (some ⟨g, 0, none⟩) ∧ B < g ∧ W.heap[g]? = some (.cells cc tEx (0, 0)) ∧ cc = X
  | 8, s, _ => s 8 = .int .i64 (arity (k : Int) : Nat)
  | _, _, _ => True
theorem nine {α : Type} (fs : List α) (h : fs.length = 9) : ∃ a b c d e f g i j, fs = [a, b, c, d, e, f, g, i, j] := by
  match fs, h with
  | [a, b, c, d, e, f, g, i, j], _ => exact ⟨a, b, c, d, e, f, g, i, j, rfl⟩
def ck3D : Nat → List Nat := fun j => if j = 7 then [6] else [j]
theorem ck3_st (B k : Nat) (X : Array Value) : ∀ j s s' W W', ck3 B k X j s W → (∀ i ∈ ck3D j, s' i = s i) → Grow (B + 1) tEx (fun c => c = X) W W' → ck3 B k X j s' W' := by
  intro j s s' W W' h hs hG
  match j, h, hs with
  | 0, h, hs => exact (hs 0 (by simp [ck3D])).trans h
  | 1, ⟨g, h1, h2⟩, hs => exact ⟨g, (hs 1 (by simp [ck3D])).trans h1, hG.keep h2 (by intro _ _ e; cases e)⟩
  | 2, h, hs => exact (hs 2 (by simp [ck3D])).trans h
  | 3, h, hs => exact (hs 3 (by simp [ck3D])).trans h
  | 4, ⟨g, h1, h2⟩, hs => exact ⟨g, (hs 4 (by simp [ck3D])).trans h1, hG.keep h2 (by intro _ _ e; cases e)⟩
  | 5, h, hs => exact (hs 5 (by simp [ck3D])).trans h
  | 6, ⟨g, cc, h1, h2, h3, h4⟩, hs =>
    obtain ⟨c', h5, h6⟩ := hG.turn h3
    exact ⟨g, c', (hs 6 (by simp [ck3D])).trans h1, h2, h5, h6.trans h4⟩
  | 7, ⟨g, cc, h1, h2, h3, h4⟩, hs =>
    obtain ⟨c', h5, h6⟩ := hG.done h3 h4
    exact ⟨g, c', (hs 6 (by simp [ck3D])).trans h1, h2, h5, h6⟩
  | 8, h, hs => exact (hs 8 (by simp [ck3D])).trans h
  | n + 9, h, hs => exact trivial

abbrev tOp : TypeId := 101
/-- five values of one cell each -/
def Five (x : Array Value) : Prop := x.size = 5 ∧ x.all (·.oneCell') = true
theorem five_val (e : Entry) (fv : Value) (W : World) (k : Int) (h : FnOk W k fv) : ∃ x, Five x ∧ e.val fv = .agg x := by
  refine ⟨_, ⟨rfl, ?_⟩, rfl⟩
  rcases h with ⟨_, rfl⟩ | ⟨n, g, _, rfl, _⟩ | ⟨n, g, _, rfl, _⟩ | ⟨n, g, h, _, rfl, _⟩ <;> simp [Value.oneCell']
theorem five_zero : ∃ x, Five x ∧ opZero = .agg x := ⟨_, ⟨rfl, by simp [Value.oneCell']⟩, rfl⟩
/-- the values of the region that looks an operator up -/
def ck12 (B Bd : Nat) (o : Int) : Nat → (Nat → Value) → World → Prop
  | 0, s, W => ∃ b, s 0 = .map (some b) ∧ OpsAt W b opL
  | 1, s, _ => s 1 = .pointer (some ⟨B, 1, none⟩)
  | 2, s, _ => s 2 = .int .i64 o
  | 3, s, _ => ∃ x, Five x ∧ s 3 = .tuple #[.agg x, .bool (knownB o)]
  | 4, s, _ => ∃ x, Five x ∧ s 4 = .tuple #[.agg x, .bool (knownB o)]
  | 5, s, _ => ∃ x, Five x ∧ s 5 = .agg x
  | 6, s, _ => s 6 = .bool (knownB o)
  | 7, s, W => ∃ g cc, s 7 = .pointer (some ⟨g, 0, none⟩) ∧ Bd ≤ g ∧ W.heap[g]? = some (.cells cc tOp (0, 0)) ∧ cc.size = 5
  | 9, s, _ => s 9 = .bool (knownB o)
  | _, _, _ => True
theorem ck12_st (B Bd : Nat) (o : Int) : ∀ j s s' W W', ck12 B Bd o j s W → (∀ i ∈ [j], s' i = s i) → Grow Bd tOp (fun _ => True) W W' → ck12 B Bd o j s' W' := by
  intro j s s' W W' h hs hG
  match j, h, hs with
  | 0, ⟨b, h1, h2⟩, hs => exact ⟨b, (hs 0 (by simp)).trans h1, h2.grow hG (by decide) (by decide)⟩
  | 1, h, hs => exact (hs 1 (by simp)).trans h
  | 2, h, hs => exact (hs 2 (by simp)).trans h
  | 3, ⟨x, h1, h2⟩, hs => exact ⟨x, h1, (hs 3 (by simp)).trans h2⟩
  | 4, ⟨x, h1, h2⟩, hs => exact ⟨x, h1, (hs 4 (by simp)).trans h2⟩
  | 5, ⟨x, h1, h2⟩, hs => exact ⟨x, h1, (hs 5 (by simp)).trans h2⟩
  | 6, h, hs => exact (hs 6 (by simp)).trans h
  | 7, ⟨g, cc, h1, h2, h3, h4⟩, hs =>
    obtain ⟨c', h5, h6⟩ := hG.turn h3
    exact ⟨g, c', (hs 7 (by simp)).trans h1, h2, h5, h6.trans h4⟩
  | 8, h, hs => exact trivial
  | 9, h, hs => exact (hs 9 (by simp)).trans h
  | n + 10, h, hs => exact trivial
theorem ten {α : Type} (fs : List α) (h : fs.length = 10) : ∃ a b c d e f g i j k, fs = [a, b, c, d, e, f, g, i, j, k] := by
  match fs, h with
  | [a, b, c, d, e, f, g, i, j, k], _ => exact ⟨a, b, c, d, e, f, g, i, j, k, rfl⟩

set_option maxRecDepth 100000 in
set_option maxHeartbeats 4000000 in
theorem check_k1 (o : Int) (nm : List UInt8) (v : Int) (p : Option Addr) (m c : Nat) (w : World) (hn0 : nm.length ≤ 140737488355328) (hm0 : m ≤ 2199023255488) :
    Gives Tryz.prog 63 #[.agg (exC 1 o nm v p m c)] w (.int .i64 (pc' 1 o nm v m)) := by
  unfold Gives
  show Calls _ _ #[.agg #[.int .i64 1, .int .i64 o, sV nm, .int .i64 v, .slice p m c]] _ _
  go_enter Tryz.func63, Tryz.ntmps63
  go_wp2
  obtain ⟨B, hB⟩ : ∃ B, B = w.heap.size := ⟨_, rfl⟩
  obtain ⟨W0, hW0⟩ : ∃ W, W = w.alloc (.cells (exC 1 o nm v p m c) tEx) := ⟨_, rfl⟩
  have hbox : W0.heap[B]? = some (.cells (exC 1 o nm v p m c) tEx (0, 0)) := by rw [hW0, hB]; exact alloc_here _ _
  have hWs : W0.heap.size = B + 1 := by rw [hW0, hB]; simp
  change Code.wp _ _ _ _ (w.alloc (.cells (exC 1 o nm v p m c) tEx))
  rw [← hW0, ← hB]
  refine wp_region_g (by kernel_rfl) (Grow (B + 1) tEx (fun c' => c' = exC 1 o nm v p m c)) (Grow.drawn _ _ _) Grow.trans (ck3 B 1 (exC 1 o nm v p m c)) ck3D (ck3_st B 1 _) (by kernel_rfl) (by kernel_rfl) (by kernel_rfl) 104 rfl (by kernel_rfl) ?_ ?_
  · intro i op ho a' W hA
    have hb : W.heap[B]? = some (.cells (exC 1 o nm v p m c) tEx (0, 0)) := (hA.rel.low (by omega) (by omega)).trans hbox
    have hlt : B < W.heap.size := lt_of_block hb
    have c0 : W.cell? ⟨B, 0, none⟩ = some (.int .i64 1) := cell_of hb rfl
    have c1 : W.cell? ⟨B, 1, none⟩ = some (.int .i64 o) := cell_of hb rfl
    have c2 : W.cell? ⟨B, 2, none⟩ = some (sV nm) := cell_of hb rfl
    have c3 : W.cell? ⟨B, 3, none⟩ = some (.int .i64 v) := cell_of hb rfl
    have c4 : W.cell? ⟨B, 4, none⟩ = some (.slice p m c) := cell_of hb rfl
    match i, ho with
    | 0, ho =>
      obtain rfl := Option.some.inj ho
      have e1 : a'.eval (.tmp 1) = .pointer (some ⟨B, 0, none⟩) := hA.keep 1 (by kernel_rfl)
      refine GoesG.value (.agg (exC 1 o nm v p m c)) rfl ?_ (Grow.refl _ _ _ _) (fun s h1 h2 => h1 rfl)
      simp only [execOp, e1]
      simp [go_sem, c0, c1, c2, c3, c4, exC]
    | 1, ho =>
      obtain rfl := Option.some.inj ho
      refine GoesG.value (.slice (some ⟨W.heap.size, 0, none⟩) 5 5) (W' := W.alloc (.cells arC tInt)) rfl ?_ (Grow.of_ext ((Below.refl _ W).alloc (Nat.le_refl _) _)) (fun s h1 h2 => ⟨_, h1 rfl, alloc_here _ _⟩)
      simp only [execOp]
      simp [go_sem]
      rfl
    | 2, ho =>
      obtain rfl := Option.some.inj ho
      have e1 : a'.eval (.tmp 1) = .pointer (some ⟨B, 0, none⟩) := hA.keep 1 (by kernel_rfl)
      refine GoesG.value (.pointer (some ⟨B, 0, none⟩)) rfl ?_ (Grow.refl _ _ _ _) (fun s h1 h2 => h1 rfl)
      simp only [execOp, e1]
      simp [go_sem]
    | 3, ho =>
      obtain rfl := Option.some.inj ho
      have e1 : a'.eval (.tmp 17) = .pointer (some ⟨B, 0, none⟩) := (sv_dst (l := _) rfl).symm.trans (hA.new 2 (by decide) (by kernel_rfl))
      refine GoesG.value (.int .i64 1) rfl ?_ (Grow.refl _ _ _ _) (fun s h1 h2 => h1 rfl)
      simp only [execOp, e1]
      simp [go_sem, c0]
    | 4, ho =>
      obtain rfl := Option.some.inj ho
      obtain ⟨g, e0, hg⟩ := hA.new 1 (by decide) (by kernel_rfl)
      have e1 : a'.eval (.tmp 16) = .slice (some ⟨g, 0, none⟩) 5 5 := (sv_dst (l := _) rfl).symm.trans e0
      have e2 : a'.eval (.tmp 18) = .int .i64 1 := (sv_dst (l := _) rfl).symm.trans (hA.new 3 (by decide) (by kernel_rfl))
      refine GoesG.value (.pointer (some ⟨g, 1, none⟩)) rfl ?_ (Grow.refl _ _ _ _) (fun s h1 h2 => ⟨g, h1 rfl, hg⟩)
      simp only [execOp, e1, e2]
      simp [go_sem]
    | 5, ho =>
      obtain rfl := Option.some.inj ho
      obtain ⟨g, e0, hg⟩ := hA.new 4 (by decide) (by kernel_rfl)
      have e1 : a'.eval (.tmp 19) = .pointer (some ⟨g, 1, none⟩) := (sv_dst (l := _) rfl).symm.trans e0
      have d1 : W.cell? ⟨g, 1, none⟩ = some (.int .i64 (arity 1 : Nat)) := cell_of hg rfl
      refine GoesG.value (.int .i64 (arity 1 : Nat)) rfl ?_ (Grow.refl _ _ _ _) (fun s h1 h2 => h1 rfl)
      simp only [execOp, e1]
      simp [go_sem, d1]
    | 6, ho =>
      obtain rfl := Option.some.inj ho
      refine GoesG.value (.pointer (some ⟨W.heap.size, 0, none⟩)) (W' := W.alloc (.cells #[.int .i64 0, .int .i64 0, sV [], .int .i64 0, .slice none 0 0] tEx)) rfl ?_ (Grow.of_ext ((Below.refl _ W).alloc (Nat.le_refl _) _)) (fun s h1 h2 => ⟨_, _, h1 rfl, hlt, alloc_here _ _, rfl⟩)
      simp only [execOp]
      simp [go_sem]
      rfl
    | 7, ho =>
      obtain rfl := Option.some.inj ho
      obtain ⟨g, cc, e0, hB2, hg, hcc⟩ := hA.new 6 (by decide) (by kernel_rfl)
      have e1 : a'.eval (.tmp 3) = .pointer (some ⟨g, 0, none⟩) := (sv_dst (l := _) rfl).symm.trans e0
      have e2 : a'.eval (.tmp 15) = .agg (exC 1 o nm v p m c) := (sv_dst (l := _) rfl).symm.trans (hA.new 0 (by decide) (by kernel_rfl))
      exact GoesG.store rfl tEx (.tmp 3) (.tmp 15) rfl g (exC 1 o nm v p m c) e1 e2 tEx cc hg (by kernel_rfl) hcc (by simp [exC, Value.oneCell']) rfl (Grow.row hg (by omega) hcc.symm rfl)
        (fun s h2 => ⟨g, _, (h2 6 (by decide) (by kernel_rfl)).trans e0, hB2, setRow_heap _ _ _ _ _ _ hg, rfl⟩)
    | 8, ho =>
      obtain rfl := Option.some.inj ho
      have e2 : a'.eval (.tmp 20) = .int .i64 (arity 1 : Nat) := (sv_dst (l := _) rfl).symm.trans (hA.new 5 (by decide) (by kernel_rfl))
      exact GoesG.assign (.tmp 20) rfl rfl (Grow.refl _ _ _ _) (fun s h1 h2 => (h1 rfl).trans e2)
    | i + 9, ho => cases ho
  · intro vs W hvs hG hΦ
    obtain ⟨v0, v1, v2, v3, v4, v5, v6, v7, v8, rfl⟩ := nine vs hvs
    have h8 : v8 = .int .i64 0 := (hΦ 8 (by decide)).trans (by rfl)
    obtain ⟨g, cc, h6, hBg, hg, hcc⟩ : ∃ g cc, v6 = .pointer (some ⟨g, 0, none⟩) ∧ B < g ∧ W.heap[g]? = some (.cells cc tEx (0, 0)) ∧ cc = exC 1 o nm v p m c := hΦ 7 (by decide)
    subst hcc h8 h6
    have hE : Ext W0 W := by rw [← hWs] at hG; exact hG.ext
    have hb : W.heap[B]? = some (.cells (exC 1 o nm v p m c) tEx (0, 0)) := (hE.below.block B (lt_of_block hbox)).trans hbox
    have hwB : Ext w W := by rw [hW0] at hE; exact Ext.trans ((Below.refl _ w).alloc (Nat.le_refl _) _) hE
    clear hΦ hG hE hbox hWs
    simp only [putAll, Act.put, List.setIfInBounds_toArray, List.set_cons_succ, List.set_cons_zero]
    have b0 : W.cell? ⟨B, 0, none⟩ = some (.int .i64 1) := cell_of hb rfl
    have b1 : W.cell? ⟨B, 1, none⟩ = some (.int .i64 o) := cell_of hb rfl
    have b2 : W.cell? ⟨B, 2, none⟩ = some (sV nm) := cell_of hb rfl
    have b3 : W.cell? ⟨B, 3, none⟩ = some (.int .i64 v) := cell_of hb rfl
    have b4 : W.cell? ⟨B, 4, none⟩ = some (.slice p m c) := cell_of hb rfl
    have g1 : W.cell? ⟨g, 1, none⟩ = some (.int .i64 o) := cell_of hg rfl
    have g2 : W.cell? ⟨g, 2, none⟩ = some (sV nm) := cell_of hg rfl
    have g3 : W.cell? ⟨g, 3, none⟩ = some (.int .i64 v) := cell_of hg rfl
    have f1 : ∀ i, W.frozen? ⟨g, i, none⟩ = false := fun i => free_of hg
    have n1 : ¬ B = g := by omega
    have n2 : ¬ g = B := by omega
    have HG := Lib.hid hg
    have HB := Lib.hid hb
    have HW := Lib.hid hwB
    have HL := Lib.hid hBg
    have HS := Lib.hid (fun (off : Nat) (x : Value) => show Ext w (W.setCell ⟨g, off, none⟩ x) from Below.setCell hwB (show w.heap.size ≤ g by omega) x)
    clear hg hb hwB hBg hvs hW0 hB
    clear W0
    by_cases ho : o = 0
    rotate_left
    · have q_o1 : (o == 0) = false := by simp; omega
      have q_o2 : (o != 0) = true := by simp; omega
      have HZ := Lib.hid (show pc' 1 o nm v m = 1 by simp [pc', ho])
      go_wp2
      all_goals (go_ret; exact ⟨by rw [HZ.out]; rfl, HS.out _ _⟩)
    subst ho
    by_cases hn : nm = []
    rotate_left
    · have hn1 : nm.isEmpty = false := by simpa using hn
      have HZ := Lib.hid (show pc' 1 0 nm v m = 1 by simp [pc', hn])
      go_wp2
      all_goals (go_ret; exact ⟨by rw [HZ.out]; rfl, HS.out _ _⟩)
    subst hn
    by_cases hm : m = 0
    rotate_left
    · have q_m1 : ((m : Int) == 0) = false := by simp; omega
      have q_m2 : ((m : Int) != 0) = true := by simp; omega
      have HZ := Lib.hid (show pc' 1 0 [] v m = 1 by simp [pc', arity, hm])
      go_wp2
      all_goals (go_ret; exact ⟨by rw [HZ.out]; rfl, HS.out _ _⟩)
    subst hm
    go_wp2
    obtain ⟨W2, hW2⟩ : ∃ W2, W2 = W.setCell ⟨g, 3, none⟩ (.int .i64 0) := ⟨_, rfl⟩
    have hb2 : W2.heap[B]? = some (.cells (exC 1 0 [] v p 0 c) tEx (0, 0)) := by rw [hW2]; exact (Below.heap_setCell _ _ _ _ n1).trans HB.out
    have hE2 : Ext w W2 := by rw [hW2]; exact HS.out _ _
    rw [← hW2]
    have hlt2 := lt_of_block hb2
    clear b0 b1 b2 b3 b4 g1 g2 g3 f1 hW2
    refine wp_region_g (by kernel_rfl) (Grow W2.heap.size tOp (fun _ => True)) (Grow.drawn _ _ _) Grow.trans (ck12 B W2.heap.size 0) (fun j => [j]) (ck12_st B _ 0) (by kernel_rfl) (by kernel_rfl) (by kernel_rfl) 104 rfl (by kernel_rfl) ?_ ?_
    · intro i op ho a' W hA
      have hb : W.heap[B]? = some (.cells (exC 1 0 [] v p 0 c) tEx (0, 0)) := (hA.rel.low hlt2 hlt2).trans hb2
      have c1 : W.cell? ⟨B, 1, none⟩ = some (.int .i64 0) := cell_of hb rfl
      match i, ho with
      | 0, ho =>
        obtain rfl := Option.some.inj ho
        refine GoesG.call 86 #[] rfl ?_ ((operators_any W).mono ?_)
        · simp [execOp, resolve, invoke, Deferred.ofValue]
          rfl
        · rintro e W1 ⟨b, rfl, hO, hE⟩
          exact ⟨_, rfl, Grow.of_ext hE, fun s h1 h2 => ⟨b, h1 rfl, hO⟩⟩
      | 1, ho =>
        obtain rfl := Option.some.inj ho
        have e1 : a'.eval (.tmp 1) = .pointer (some ⟨B, 0, none⟩) := hA.keep 1 (by kernel_rfl)
        refine GoesG.value (.pointer (some ⟨B, 1, none⟩)) rfl ?_ (Grow.refl _ _ _ _) (fun s h1 h2 => h1 rfl)
        simp only [execOp, e1]
        simp [go_sem]
      | 2, ho =>
        obtain rfl := Option.some.inj ho
        have e1 : a'.eval (.tmp 52) = .pointer (some ⟨B, 1, none⟩) := (sv_dst (l := _) rfl).symm.trans (hA.new 1 (by decide) (by kernel_rfl))
        refine GoesG.value (.int .i64 0) rfl ?_ (Grow.refl _ _ _ _) (fun s h1 h2 => h1 rfl)
        simp only [execOp, e1]
        simp [go_sem, c1]
      | 3, ho =>
        obtain rfl := Option.some.inj ho
        obtain ⟨b, e0, hO⟩ := hA.new 0 (by decide) (by kernel_rfl)
        have e1 : a'.eval (.tmp 51) = .map (some b) := (sv_dst (l := _) rfl).symm.trans e0
        have e2 : a'.eval (.tmp 53) = .int .i64 0 := (sv_dst (l := _) rfl).symm.trans (hA.new 2 (by decide) (by kernel_rfl))
        obtain ⟨x, hx, hrun⟩ : ∃ x, Five x ∧ (Instr.lookup 102 (.map (some b)) (.int .i64 0) true).run Tryz.prog W = .ok (.tuple #[.agg x, .bool (knownB 0)]) W := by
          cases hk : knownB 0 with
          | true =>
            obtain ⟨fv, hf, hr⟩ := ops_yes hO 0 hk
            obtain ⟨x, hx, he⟩ := five_val (opOf 0) fv W 0 hf
            exact ⟨x, hx, by have := hr true; rw [he] at this; simpa using this⟩
          | false =>
            obtain ⟨x, hx, he⟩ := five_zero
            exact ⟨x, hx, by have := ops_no hO 0 hk true; rw [he] at this; simpa using this⟩
        refine GoesG.value _ rfl ?_ (Grow.refl _ _ _ _) (fun s h1 h2 => ⟨x, hx, h1 rfl⟩)
        simp only [execOp, e1, e2, Sem.run_bind, hrun, Result.andThen_ok, Sem.run_pure]
      | 4, ho =>
        obtain rfl := Option.some.inj ho
        obtain ⟨x, hx, e0⟩ := hA.new 3 (by decide) (by kernel_rfl)
        have e1 : a'.eval (.tmp 54) = .tuple #[.agg x, .bool (knownB 0)] := (sv_dst (l := _) rfl).symm.trans e0
        exact GoesG.move (.tmp 54) rfl rfl (Grow.refl _ _ _ _) (fun s h1 h2 => ⟨x, hx, (h1 rfl).trans e1⟩)
      | 5, ho =>
        obtain rfl := Option.some.inj ho
        obtain ⟨x, hx, e0⟩ := hA.new 4 (by decide) (by kernel_rfl)
        have e1 : a'.eval (.tmp 50) = .tuple #[.agg x, .bool (knownB 0)] := (sv_dst (l := _) rfl).symm.trans e0
        refine GoesG.value (.agg x) rfl ?_ (Grow.refl _ _ _ _) (fun s h1 h2 => ⟨x, hx, h1 rfl⟩)
        simp only [execOp, e1]
        simp [go_sem]
      | 6, ho =>
        obtain rfl := Option.some.inj ho
        obtain ⟨x, hx, e0⟩ := hA.new 4 (by decide) (by kernel_rfl)
        have e1 : a'.eval (.tmp 50) = .tuple #[.agg x, .bool (knownB 0)] := (sv_dst (l := _) rfl).symm.trans e0
        refine GoesG.value (.bool (knownB 0)) rfl ?_ (Grow.refl _ _ _ _) (fun s h1 h2 => h1 rfl)
        simp only [execOp, e1]
        simp [go_sem]
      | 7, ho =>
        obtain rfl := Option.some.inj ho
        refine GoesG.value (.pointer (some ⟨W.heap.size, 0, none⟩)) (W' := W.alloc (.cells #[sV [], .int .i64 0, .int .i64 0, .int .i64 0, .nilFunc] tOp)) rfl ?_ (Grow.of_ext ((Below.refl _ W).alloc (Nat.le_refl _) _)) (fun s h1 h2 => ⟨_, _, h1 rfl, hA.rel.size, alloc_here _ _, rfl⟩)
        simp only [execOp]
        simp [go_sem]
        rfl
      | 8, ho =>
        obtain rfl := Option.some.inj ho
        obtain ⟨g, cc, e0, hB2, hg, hcc⟩ := hA.new 7 (by decide) (by kernel_rfl)
        obtain ⟨x, hx, e5⟩ := hA.new 5 (by decide) (by kernel_rfl)
        have e1 : a'.eval (.tmp 5) = .pointer (some ⟨g, 0, none⟩) := (sv_dst (l := _) rfl).symm.trans e0
        have e2 : a'.eval (.tmp 55) = .agg x := (sv_dst (l := _) rfl).symm.trans e5
        exact GoesG.store rfl tOp (.tmp 5) (.tmp 55) rfl g x e1 e2 tOp cc hg (by rw [hx.1]; kernel_rfl) (hcc.trans hx.1.symm) hx.2 rfl (Grow.row hg hB2 (hx.1.trans hcc.symm) trivial)
          (fun s h2 => trivial)
      | 9, ho =>
        obtain rfl := Option.some.inj ho
        have e2 : a'.eval (.tmp 56) = .bool (knownB 0) := (sv_dst (l := _) rfl).symm.trans (hA.new 6 (by decide) (by kernel_rfl))
        exact GoesG.assign (.tmp 56) rfl rfl (Grow.refl _ _ _ _) (fun s h1 h2 => (h1 rfl).trans e2)
      | i + 10, ho => cases ho
    · intro vs W3 hvs hG hΦ
      obtain ⟨u0, u1, u2, u3, u4, u5, u6, u7, u8, u9, rfl⟩ := ten vs hvs
      have h9 : u9 = .bool (knownB 0) := hΦ 9 (by decide)
      subst h9
      have hE3 := Lib.hid (Ext.trans hE2 hG.ext)
      have hb3 : W3.heap[B]? = some (.cells (exC 1 0 [] v p 0 c) tEx (0, 0)) := (hG.low hlt2 hlt2).trans hb2
      have b0 : W3.cell? ⟨B, 0, none⟩ = some (.int .i64 1) := cell_of hb3 rfl
      have b1 : W3.cell? ⟨B, 1, none⟩ = some (.int .i64 0) := cell_of hb3 rfl
      have b2 : W3.cell? ⟨B, 2, none⟩ = some (sV []) := cell_of hb3 rfl
      have b3 : W3.cell? ⟨B, 3, none⟩ = some (.int .i64 v) := cell_of hb3 rfl
      clear hΦ hG hb2 hE2 hlt2 hvs hb3 n1 n2 HL HS HW HB HG
      clear W2 W
      simp only [putAll, Act.put, List.setIfInBounds_toArray, List.set_cons_succ, List.set_cons_zero]
      by_cases hv : v < 0
      · have HZ := Lib.hid (show pc' 1 0 [] v 0 = 2 by simp [pc', arity, hv])
        go_wp2
        go_ret
        exact ⟨by rw [HZ.out]; rfl, hE3.out⟩
      by_cases hv2 : 1099511627776 < v
      · have HZ := Lib.hid (show pc' 1 0 [] v 0 = 2 by simp [pc', arity, hv, hv2])
        go_wp2
        go_ret
        exact ⟨by rw [HZ.out]; rfl, hE3.out⟩
      · have HZ := Lib.hid (show pc' 1 0 [] v 0 = 0 by simp [pc', arity, hv, hv2])
        go_wp2
        go_ret
        exact ⟨by rw [HZ.out]; rfl, hE3.out⟩

set_option maxRecDepth 100000 in
set_option maxHeartbeats 4000000 in
theorem check_k2 (o : Int) (nm : List UInt8) (v : Int) (p : Option Addr) (m c : Nat) (w : World) (hn0 : nm.length ≤ 140737488355328) (hm0 : m ≤ 2199023255488) :
    Gives Tryz.prog 63 #[.agg (exC 2 o nm v p m c)] w (.int .i64 (pc' 2 o nm v m)) := by
  unfold Gives
  show Calls _ _ #[.agg #[.int .i64 2, .int .i64 o, sV nm, .int .i64 v, .slice p m c]] _ _
  go_enter Tryz.func63, Tryz.ntmps63
  go_wp2
  obtain ⟨B, hB⟩ : ∃ B, B = w.heap.size := ⟨_, rfl⟩
  obtain ⟨W0, hW0⟩ : ∃ W, W = w.alloc (.cells (exC 2 o nm v p m c) tEx) := ⟨_, rfl⟩
  have hbox : W0.heap[B]? = some (.cells (exC 2 o nm v p m c) tEx (0, 0)) := by rw [hW0, hB]; exact alloc_here _ _
  have hWs : W0.heap.size = B + 1 := by rw [hW0, hB]; simp
  change Code.wp _ _ _ _ (w.alloc (.cells (exC 2 o nm v p m c) tEx))
  rw [← hW0, ← hB]
  refine wp_region_g (by kernel_rfl) (Grow (B + 1) tEx (fun c' => c' = exC 2 o nm v p m c)) (Grow.drawn _ _ _) Grow.trans (ck3 B 2 (exC 2 o nm v p m c)) ck3D (ck3_st B 2 _) (by kernel_rfl) (by kernel_rfl) (by kernel_rfl) 104 rfl (by kernel_rfl) ?_ ?_
  · intro i op ho a' W hA
    have hb : W.heap[B]? = some (.cells (exC 2 o nm v p m c) tEx (0, 0)) := (hA.rel.low (by omega) (by omega)).trans hbox
    have hlt : B < W.heap.size := lt_of_block hb
    have c0 : W.cell? ⟨B, 0, none⟩ = some (.int .i64 2) := cell_of hb rfl
    have c1 : W.cell? ⟨B, 1, none⟩ = some (.int .i64 o) := cell_of hb rfl
    have c2 : W.cell? ⟨B, 2, none⟩ = some (sV nm) := cell_of hb rfl
    have c3 : W.cell? ⟨B, 3, none⟩ = some (.int .i64 v) := cell_of hb rfl
    have c4 : W.cell? ⟨B, 4, none⟩ = some (.slice p m c) := cell_of hb rfl
    match i, ho with
    | 0, ho =>
      obtain rfl := Option.some.inj ho
      have e1 : a'.eval (.tmp 1) = .pointer (some ⟨B, 0, none⟩) := hA.keep 1 (by kernel_rfl)
      refine GoesG.value (.agg (exC 2 o nm v p m c)) rfl ?_ (Grow.refl _ _ _ _) (fun s h1 h2 => h1 rfl)
      simp only [execOp, e1]
      simp [go_sem, c0, c1, c2, c3, c4, exC]
    | 1, ho =>
      obtain rfl := Option.some.inj ho
      refine GoesG.value (.slice (some ⟨W.heap.size, 0, none⟩) 5 5) (W' := W.alloc (.cells arC tInt)) rfl ?_ (Grow.of_ext ((Below.refl _ W).alloc (Nat.le_refl _) _)) (fun s h1 h2 => ⟨_, h1 rfl, alloc_here _ _⟩)
      simp only [execOp]
      simp [go_sem]
      rfl
    | 2, ho =>
      obtain rfl := Option.some.inj ho
      have e1 : a'.eval (.tmp 1) = .pointer (some ⟨B, 0, none⟩) := hA.keep 1 (by kernel_rfl)
      refine GoesG.value (.pointer (some ⟨B, 0, none⟩)) rfl ?_ (Grow.refl _ _ _ _) (fun s h1 h2 => h1 rfl)
      simp only [execOp, e1]
      simp [go_sem]
    | 3, ho =>
      obtain rfl := Option.some.inj ho
      have e1 : a'.eval (.tmp 17) = .pointer (some ⟨B, 0, none⟩) := (sv_dst (l := _) rfl).symm.trans (hA.new 2 (by decide) (by kernel_rfl))
      refine GoesG.value (.int .i64 2) rfl ?_ (Grow.refl _ _ _ _) (fun s h1 h2 => h1 rfl)
      simp only [execOp, e1]
      simp [go_sem, c0]
    | 4, ho =>
      obtain rfl := Option.some.inj ho
      obtain ⟨g, e0, hg⟩ := hA.new 1 (by decide) (by kernel_rfl)
      have e1 : a'.eval (.tmp 16) = .slice (some ⟨g, 0, none⟩) 5 5 := (sv_dst (l := _) rfl).symm.trans e0
      have e2 : a'.eval (.tmp 18) = .int .i64 2 := (sv_dst (l := _) rfl).symm.trans (hA.new 3 (by decide) (by kernel_rfl))
      refine GoesG.value (.pointer (some ⟨g, 2, none⟩)) rfl ?_ (Grow.refl _ _ _ _) (fun s h1 h2 => ⟨g, h1 rfl, hg⟩)
      simp only [execOp, e1, e2]
      simp [go_sem]
    | 5, ho =>
      obtain rfl := Option.some.inj ho
      obtain ⟨g, e0, hg⟩ := hA.new 4 (by decide) (by kernel_rfl)
      have e1 : a'.eval (.tmp 19) = .pointer (some ⟨g, 2, none⟩) := (sv_dst (l := _) rfl).symm.trans e0
      have d1 : W.cell? ⟨g, 2, none⟩ = some (.int .i64 (arity 2 : Nat)) := cell_of hg rfl
      refine GoesG.value (.int .i64 (arity 2 : Nat)) rfl ?_ (Grow.refl _ _ _ _) (fun s h1 h2 => h1 rfl)
      simp only [execOp, e1]
      simp [go_sem, d1]
    | 6, ho =>
      obtain rfl := Option.some.inj ho
      refine GoesG.value (.pointer (some ⟨W.heap.size, 0, none⟩)) (W' := W.alloc (.cells #[.int .i64 0, .int .i64 0, sV [], .int .i64 0, .slice none 0 0] tEx)) rfl ?_ (Grow.of_ext ((Below.refl _ W).alloc (Nat.le_refl _) _)) (fun s h1 h2 => ⟨_, _, h1 rfl, hlt, alloc_here _ _, rfl⟩)
      simp only [execOp]
      simp [go_sem]
      rfl
    | 7, ho =>
      obtain rfl := Option.some.inj ho
      obtain ⟨g, cc, e0, hB2, hg, hcc⟩ := hA.new 6 (by decide) (by kernel_rfl)
      have e1 : a'.eval (.tmp 3) = .pointer (some ⟨g, 0, none⟩) := (sv_dst (l := _) rfl).symm.trans e0
      have e2 : a'.eval (.tmp 15) = .agg (exC 2 o nm v p m c) := (sv_dst (l := _) rfl).symm.trans (hA.new 0 (by decide) (by kernel_rfl))
      exact GoesG.store rfl tEx (.tmp 3) (.tmp 15) rfl g (exC 2 o nm v p m c) e1 e2 tEx cc hg (by kernel_rfl) hcc (by simp [exC, Value.oneCell']) rfl (Grow.row hg (by omega) hcc.symm rfl)
        (fun s h2 => ⟨g, _, (h2 6 (by decide) (by kernel_rfl)).trans e0, hB2, setRow_heap _ _ _ _ _ _ hg, rfl⟩)
    | 8, ho =>
      obtain rfl := Option.some.inj ho
      have e2 : a'.eval (.tmp 20) = .int .i64 (arity 2 : Nat) := (sv_dst (l := _) rfl).symm.trans (hA.new 5 (by decide) (by kernel_rfl))
      exact GoesG.assign (.tmp 20) rfl rfl (Grow.refl _ _ _ _) (fun s h1 h2 => (h1 rfl).trans e2)
    | i + 9, ho => cases ho
  · intro vs W hvs hG hΦ
    obtain ⟨v0, v1, v2, v3, v4, v5, v6, v7, v8, rfl⟩ := nine vs hvs
    have h8 : v8 = .int .i64 0 := (hΦ 8 (by decide)).trans (by rfl)
    obtain ⟨g, cc, h6, hBg, hg, hcc⟩ : ∃ g cc, v6 = .pointer (some ⟨g, 0, none⟩) ∧ B < g ∧ W.heap[g]? = some (.cells cc tEx (0, 0)) ∧ cc = exC 2 o nm v p m c := hΦ 7 (by decide)
    subst hcc h8 h6
    have hE : Ext W0 W := by rw [← hWs] at hG; exact hG.ext
    have hb : W.heap[B]? = some (.cells (exC 2 o nm v p m c) tEx (0, 0)) := (hE.below.block B (lt_of_block hbox)).trans hbox
    have hwB : Ext w W := by rw [hW0] at hE; exact Ext.trans ((Below.refl _ w).alloc (Nat.le_refl _) _) hE
    clear hΦ hG hE hbox hWs
    simp only [putAll, Act.put, List.setIfInBounds_toArray, List.set_cons_succ, List.set_cons_zero]
    have b0 : W.cell? ⟨B, 0, none⟩ = some (.int .i64 2) := cell_of hb rfl
    have b1 : W.cell? ⟨B, 1, none⟩ = some (.int .i64 o) := cell_of hb rfl
    have b2 : W.cell? ⟨B, 2, none⟩ = some (sV nm) := cell_of hb rfl
    have b3 : W.cell? ⟨B, 3, none⟩ = some (.int .i64 v) := cell_of hb rfl
    have b4 : W.cell? ⟨B, 4, none⟩ = some (.slice p m c) := cell_of hb rfl
    have g1 : W.cell? ⟨g, 1, none⟩ = some (.int .i64 o) := cell_of hg rfl
    have g2 : W.cell? ⟨g, 2, none⟩ = some (sV nm) := cell_of hg rfl
    have g3 : W.cell? ⟨g, 3, none⟩ = some (.int .i64 v) := cell_of hg rfl
    have f1 : ∀ i, W.frozen? ⟨g, i, none⟩ = false := fun i => free_of hg
    have n1 : ¬ B = g := by omega
    have n2 : ¬ g = B := by omega
    have HG := Lib.hid hg
    have HB := Lib.hid hb
    have HW := Lib.hid hwB
    have HL := Lib.hid hBg
    have HS := Lib.hid (fun (off : Nat) (x : Value) => show Ext w (W.setCell ⟨g, off, none⟩ x) from Below.setCell hwB (show w.heap.size ≤ g by omega) x)
    clear hg hb hwB hBg hvs hW0 hB
    clear W0
    by_cases ho : o = 0
    rotate_left
    · have q_o1 : (o == 0) = false := by simp; omega
      have q_o2 : (o != 0) = true := by simp; omega
      have HZ := Lib.hid (show pc' 2 o nm v m = 1 by simp [pc', ho])
      go_wp2
      all_goals (go_ret; exact ⟨by rw [HZ.out]; rfl, HS.out _ _⟩)
    subst ho
    by_cases hv : v = 0
    rotate_left
    · have q_v1 : (v == 0) = false := by simp; omega
      have q_v2 : (v != 0) = true := by simp; omega
      have HZ := Lib.hid (show pc' 2 0 nm v m = 1 by simp [pc', hv])
      go_wp2
      all_goals (go_ret; exact ⟨by rw [HZ.out]; rfl, HS.out _ _⟩)
    subst hv
    by_cases hm : m = 0
    rotate_left
    · have q_m1 : ((m : Int) == 0) = false := by simp; omega
      have q_m2 : ((m : Int) != 0) = true := by simp; omega
      have HZ := Lib.hid (show pc' 2 0 nm 0 m = 1 by simp [pc', arity, hm])
      go_wp2
      all_goals (go_ret; exact ⟨by rw [HZ.out]; rfl, HS.out _ _⟩)
    subst hm
    go_wp2
    obtain ⟨W2, hW2⟩ : ∃ W2, W2 = W.setCell ⟨g, 2, none⟩ (.string { data := #[] }) := ⟨_, rfl⟩
    have hb2 : W2.heap[B]? = some (.cells (exC 2 0 nm 0 p 0 c) tEx (0, 0)) := by rw [hW2]; exact (Below.heap_setCell _ _ _ _ n1).trans HB.out
    have hE2 : Ext w W2 := by rw [hW2]; exact HS.out _ _
    rw [← hW2]
    have hlt2 := lt_of_block hb2
    clear b0 b1 b2 b3 b4 g1 g2 g3 f1 hW2
    refine wp_region_g (by kernel_rfl) (Grow W2.heap.size tOp (fun _ => True)) (Grow.drawn _ _ _) Grow.trans (ck12 B W2.heap.size 0) (fun j => [j]) (ck12_st B _ 0) (by kernel_rfl) (by kernel_rfl) (by kernel_rfl) 104 rfl (by kernel_rfl) ?_ ?_
    · intro i op ho a' W hA
      have hb : W.heap[B]? = some (.cells (exC 2 0 nm 0 p 0 c) tEx (0, 0)) := (hA.rel.low hlt2 hlt2).trans hb2
      have c1 : W.cell? ⟨B, 1, none⟩ = some (.int .i64 0) := cell_of hb rfl
      match i, ho with
      | 0, ho =>
        obtain rfl := Option.some.inj ho
        refine GoesG.call 86 #[] rfl ?_ ((operators_any W).mono ?_)
        · simp [execOp, resolve, invoke, Deferred.ofValue]
          rfl
        · rintro e W1 ⟨b, rfl, hO, hE⟩
          exact ⟨_, rfl, Grow.of_ext hE, fun s h1 h2 => ⟨b, h1 rfl, hO⟩⟩
      | 1, ho =>
        obtain rfl := Option.some.inj ho
        have e1 : a'.eval (.tmp 1) = .pointer (some ⟨B, 0, none⟩) := hA.keep 1 (by kernel_rfl)
        refine GoesG.value (.pointer (some ⟨B, 1, none⟩)) rfl ?_ (Grow.refl _ _ _ _) (fun s h1 h2 => h1 rfl)
        simp only [execOp, e1]
        simp [go_sem]
      | 2, ho =>
        obtain rfl := Option.some.inj ho
        have e1 : a'.eval (.tmp 52) = .pointer (some ⟨B, 1, none⟩) := (sv_dst (l := _) rfl).symm.trans (hA.new 1 (by decide) (by kernel_rfl))
        refine GoesG.value (.int .i64 0) rfl ?_ (Grow.refl _ _ _ _) (fun s h1 h2 => h1 rfl)
        simp only [execOp, e1]
        simp [go_sem, c1]
      | 3, ho =>
        obtain rfl := Option.some.inj ho
        obtain ⟨b, e0, hO⟩ := hA.new 0 (by decide) (by kernel_rfl)
        have e1 : a'.eval (.tmp 51) = .map (some b) := (sv_dst (l := _) rfl).symm.trans e0
        have e2 : a'.eval (.tmp 53) = .int .i64 0 := (sv_dst (l := _) rfl).symm.trans (hA.new 2 (by decide) (by kernel_rfl))
        obtain ⟨x, hx, hrun⟩ : ∃ x, Five x ∧ (Instr.lookup 102 (.map (some b)) (.int .i64 0) true).run Tryz.prog W = .ok (.tuple #[.agg x, .bool (knownB 0)]) W := by
          cases hk : knownB 0 with
          | true =>
            obtain ⟨fv, hf, hr⟩ := ops_yes hO 0 hk
            obtain ⟨x, hx, he⟩ := five_val (opOf 0) fv W 0 hf
            exact ⟨x, hx, by have := hr true; rw [he] at this; simpa using this⟩
          | false =>
            obtain ⟨x, hx, he⟩ := five_zero
            exact ⟨x, hx, by have := ops_no hO 0 hk true; rw [he] at this; simpa using this⟩
        refine GoesG.value _ rfl ?_ (Grow.refl _ _ _ _) (fun s h1 h2 => ⟨x, hx, h1 rfl⟩)
        simp only [execOp, e1, e2, Sem.run_bind, hrun, Result.andThen_ok, Sem.run_pure]
      | 4, ho =>
        obtain rfl := Option.some.inj ho
        obtain ⟨x, hx, e0⟩ := hA.new 3 (by decide) (by kernel_rfl)
        have e1 : a'.eval (.tmp 54) = .tuple #[.agg x, .bool (knownB 0)] := (sv_dst (l := _) rfl).symm.trans e0
        exact GoesG.move (.tmp 54) rfl rfl (Grow.refl _ _ _ _) (fun s h1 h2 => ⟨x, hx, (h1 rfl).trans e1⟩)
      | 5, ho =>
        obtain rfl := Option.some.inj ho
        obtain ⟨x, hx, e0⟩ := hA.new 4 (by decide) (by kernel_rfl)
        have e1 : a'.eval (.tmp 50) = .tuple #[.agg x, .bool (knownB 0)] := (sv_dst (l := _) rfl).symm.trans e0
        refine GoesG.value (.agg x) rfl ?_ (Grow.refl _ _ _ _) (fun s h1 h2 => ⟨x, hx, h1 rfl⟩)
        simp only [execOp, e1]
        simp [go_sem]
      | 6, ho =>
        obtain rfl := Option.some.inj ho
        obtain ⟨x, hx, e0⟩ := hA.new 4 (by decide) (by kernel_rfl)
        have e1 : a'.eval (.tmp 50) = .tuple #[.agg x, .bool (knownB 0)] := (sv_dst (l := _) rfl).symm.trans e0
        refine GoesG.value (.bool (knownB 0)) rfl ?_ (Grow.refl _ _ _ _) (fun s h1 h2 => h1 rfl)
        simp only [execOp, e1]
        simp [go_sem]
      | 7, ho =>
        obtain rfl := Option.some.inj ho
        refine GoesG.value (.pointer (some ⟨W.heap.size, 0, none⟩)) (W' := W.alloc (.cells #[sV [], .int .i64 0, .int .i64 0, .int .i64 0, .nilFunc] tOp)) rfl ?_ (Grow.of_ext ((Below.refl _ W).alloc (Nat.le_refl _) _)) (fun s h1 h2 => ⟨_, _, h1 rfl, hA.rel.size, alloc_here _ _, rfl⟩)
        simp only [execOp]
        simp [go_sem]
        rfl
      | 8, ho =>
        obtain rfl := Option.some.inj ho
        obtain ⟨g, cc, e0, hB2, hg, hcc⟩ := hA.new 7 (by decide) (by kernel_rfl)
        obtain ⟨x, hx, e5⟩ := hA.new 5 (by decide) (by kernel_rfl)
        have e1 : a'.eval (.tmp 5) = .pointer (some ⟨g, 0, none⟩) := (sv_dst (l := _) rfl).symm.trans e0
        have e2 : a'.eval (.tmp 55) = .agg x := (sv_dst (l := _) rfl).symm.trans e5
        exact GoesG.store rfl tOp (.tmp 5) (.tmp 55) rfl g x e1 e2 tOp cc hg (by rw [hx.1]; kernel_rfl) (hcc.trans hx.1.symm) hx.2 rfl (Grow.row hg hB2 (hx.1.trans hcc.symm) trivial)
          (fun s h2 => trivial)
      | 9, ho =>
        obtain rfl := Option.some.inj ho
        have e2 : a'.eval (.tmp 56) = .bool (knownB 0) := (sv_dst (l := _) rfl).symm.trans (hA.new 6 (by decide) (by kernel_rfl))
        exact GoesG.assign (.tmp 56) rfl rfl (Grow.refl _ _ _ _) (fun s h1 h2 => (h1 rfl).trans e2)
      | i + 10, ho => cases ho
    · intro vs W3 hvs hG hΦ
      obtain ⟨u0, u1, u2, u3, u4, u5, u6, u7, u8, u9, rfl⟩ := ten vs hvs
      have h9 : u9 = .bool (knownB 0) := hΦ 9 (by decide)
      subst h9
      have hE3 := Lib.hid (Ext.trans hE2 hG.ext)
      have hb3 : W3.heap[B]? = some (.cells (exC 2 0 nm 0 p 0 c) tEx (0, 0)) := (hG.low hlt2 hlt2).trans hb2
      have b0 : W3.cell? ⟨B, 0, none⟩ = some (.int .i64 2) := cell_of hb3 rfl
      have b1 : W3.cell? ⟨B, 1, none⟩ = some (.int .i64 0) := cell_of hb3 rfl
      have b2 : W3.cell? ⟨B, 2, none⟩ = some (sV nm) := cell_of hb3 rfl
      have b3 : W3.cell? ⟨B, 3, none⟩ = some (.int .i64 0) := cell_of hb3 rfl
      clear hΦ hG hb2 hE2 hlt2 hvs hb3 n1 n2 HL HS HW HB HG
      clear W2 W
      simp only [putAll, Act.put, List.setIfInBounds_toArray, List.set_cons_succ, List.set_cons_zero]
      have IN := Lib.hid (fun W => isName_any nm W hn0)
      cases hq : isNm nm
      · rw [hq] at IN
        have HZ := Lib.hid (show pc' 2 0 nm 0 0 = 5 by simp [pc', arity, hq])
        go_wp2_with fail
        refine (IN.out _).mono ?_
        intro w5 hB5
        have b0' := (hB5.cell (p := ⟨B, 0, none⟩) (Ex.cell_lt' b0)).trans b0
        go_wp2
        go_ret
        exact ⟨by rw [HZ.out]; rfl, Ext.trans hE3.out hB5⟩
      · rw [hq] at IN
        have HZ := Lib.hid (show pc' 2 0 nm 0 0 = 0 by simp [pc', arity, hq])
        go_wp2_with fail
        refine (IN.out _).mono ?_
        intro w5 hB5
        have b0' := (hB5.cell (p := ⟨B, 0, none⟩) (Ex.cell_lt' b0)).trans b0
        go_wp2
        go_ret
        exact ⟨by rw [HZ.out]; rfl, Ext.trans hE3.out hB5⟩

set_option maxRecDepth 100000 in
set_option maxHeartbeats 4000000 in
theorem check_k3 (o : Int) (nm : List UInt8) (v : Int) (p : Option Addr) (m c : Nat) (w : World) (hn0 : nm.length ≤ 140737488355328) (hm0 : m ≤ 2199023255488) :
    Gives Tryz.prog 63 #[.agg (exC 3 o nm v p m c)] w (.int .i64 (pc' 3 o nm v m)) := by
  unfold Gives
  show Calls _ _ #[.agg #[.int .i64 3, .int .i64 o, sV nm, .int .i64 v, .slice p m c]] _ _
  go_enter Tryz.func63, Tryz.ntmps63
  go_wp2
  obtain ⟨B, hB⟩ : ∃ B, B = w.heap.size := ⟨_, rfl⟩
  obtain ⟨W0, hW0⟩ : ∃ W, W = w.alloc (.cells (exC 3 o nm v p m c) tEx) := ⟨_, rfl⟩
  have hbox : W0.heap[B]? = some (.cells (exC 3 o nm v p m c) tEx (0, 0)) := by rw [hW0, hB]; exact alloc_here _ _
  have hWs : W0.heap.size = B + 1 := by rw [hW0, hB]; simp
  change Code.wp _ _ _ _ (w.alloc (.cells (exC 3 o nm v p m c) tEx))
  rw [← hW0, ← hB]
  refine wp_region_g (by kernel_rfl) (Grow (B + 1) tEx (fun c' => c' = exC 3 o nm v p m c)) (Grow.drawn _ _ _) Grow.trans (ck3 B 3 (exC 3 o nm v p m c)) ck3D (ck3_st B 3 _) (by kernel_rfl) (by kernel_rfl) (by kernel_rfl) 104 rfl (by kernel_rfl) ?_ ?_
  · intro i op ho a' W hA
    have hb : W.heap[B]? = some (.cells (exC 3 o nm v p m c) tEx (0, 0)) := (hA.rel.low (by omega) (by omega)).trans hbox
    have hlt : B < W.heap.size := lt_of_block hb
    have c0 : W.cell? ⟨B, 0, none⟩ = some (.int .i64 3) := cell_of hb rfl
    have c1 : W.cell? ⟨B, 1, none⟩ = some (.int .i64 o) := cell_of hb rfl
    have c2 : W.cell? ⟨B, 2, none⟩ = some (sV nm) := cell_of hb rfl
    have c3 : W.cell? ⟨B, 3, none⟩ = some (.int .i64 v) := cell_of hb rfl
    have c4 : W.cell? ⟨B, 4, none⟩ = some (.slice p m c) := cell_of hb rfl
    match i, ho with
    | 0, ho =>
      obtain rfl := Option.some.inj ho
      have e1 : a'.eval (.tmp 1) = .pointer (some ⟨B, 0, none⟩) := hA.keep 1 (by kernel_rfl)
      refine GoesG.value (.agg (exC 3 o nm v p m c)) rfl ?_ (Grow.refl _ _ _ _) (fun s h1 h2 => h1 rfl)
      simp only [execOp, e1]
      simp [go_sem, c0, c1, c2, c3, c4, exC]
    | 1, ho =>
      obtain rfl := Option.some.inj ho
      refine GoesG.value (.slice (some ⟨W.heap.size, 0, none⟩) 5 5) (W' := W.alloc (.cells arC tInt)) rfl ?_ (Grow.of_ext ((Below.refl _ W).alloc (Nat.le_refl _) _)) (fun s h1 h2 => ⟨_, h1 rfl, alloc_here _ _⟩)
      simp only [execOp]
      simp [go_sem]
      rfl
    | 2, ho =>
      obtain rfl := Option.some.inj ho
      have e1 : a'.eval (.tmp 1) = .pointer (some ⟨B, 0, none⟩) := hA.keep 1 (by kernel_rfl)
      refine GoesG.value (.pointer (some ⟨B, 0, none⟩)) rfl ?_ (Grow.refl _ _ _ _) (fun s h1 h2 => h1 rfl)
      simp only [execOp, e1]
      simp [go_sem]
    | 3, ho =>
      obtain rfl := Option.some.inj ho
      have e1 : a'.eval (.tmp 17) = .pointer (some ⟨B, 0, none⟩) := (sv_dst (l := _) rfl).symm.trans (hA.new 2 (by decide) (by kernel_rfl))
      refine GoesG.value (.int .i64 3) rfl ?_ (Grow.refl _ _ _ _) (fun s h1 h2 => h1 rfl)
      simp only [execOp, e1]
      simp [go_sem, c0]
    | 4, ho =>
      obtain rfl := Option.some.inj ho
      obtain ⟨g, e0, hg⟩ := hA.new 1 (by decide) (by kernel_rfl)
      have e1 : a'.eval (.tmp 16) = .slice (some ⟨g, 0, none⟩) 5 5 := (sv_dst (l := _) rfl).symm.trans e0
      have e2 : a'.eval (.tmp 18) = .int .i64 3 := (sv_dst (l := _) rfl).symm.trans (hA.new 3 (by decide) (by kernel_rfl))
      refine GoesG.value (.pointer (some ⟨g, 3, none⟩)) rfl ?_ (Grow.refl _ _ _ _) (fun s h1 h2 => ⟨g, h1 rfl, hg⟩)
      simp only [execOp, e1, e2]
      simp [go_sem]
    | 5, ho =>
      obtain rfl := Option.some.inj ho
      obtain ⟨g, e0, hg⟩ := hA.new 4 (by decide) (by kernel_rfl)
      have e1 : a'.eval (.tmp 19) = .pointer (some ⟨g, 3, none⟩) := (sv_dst (l := _) rfl).symm.trans e0
      have d1 : W.cell? ⟨g, 3, none⟩ = some (.int .i64 (arity 3 : Nat)) := cell_of hg rfl
      refine GoesG.value (.int .i64 (arity 3 : Nat)) rfl ?_ (Grow.refl _ _ _ _) (fun s h1 h2 => h1 rfl)
      simp only [execOp, e1]
      simp [go_sem, d1]
    | 6, ho =>
      obtain rfl := Option.some.inj ho
      refine GoesG.value (.pointer (some ⟨W.heap.size, 0, none⟩)) (W' := W.alloc (.cells #[.int .i64 0, .int .i64 0, sV [], .int .i64 0, .slice none 0 0] tEx)) rfl ?_ (Grow.of_ext ((Below.refl _ W).alloc (Nat.le_refl _) _)) (fun s h1 h2 => ⟨_, _, h1 rfl, hlt, alloc_here _ _, rfl⟩)
      simp only [execOp]
      simp [go_sem]
      rfl
    | 7, ho =>
      obtain rfl := Option.some.inj ho
      obtain ⟨g, cc, e0, hB2, hg, hcc⟩ := hA.new 6 (by decide) (by kernel_rfl)
      have e1 : a'.eval (.tmp 3) = .pointer (some ⟨g, 0, none⟩) := (sv_dst (l := _) rfl).symm.trans e0
      have e2 : a'.eval (.tmp 15) = .agg (exC 3 o nm v p m c) := (sv_dst (l := _) rfl).symm.trans (hA.new 0 (by decide) (by kernel_rfl))
      exact GoesG.store rfl tEx (.tmp 3) (.tmp 15) rfl g (exC 3 o nm v p m c) e1 e2 tEx cc hg (by kernel_rfl) hcc (by simp [exC, Value.oneCell']) rfl (Grow.row hg (by omega) hcc.symm rfl)
        (fun s h2 => ⟨g, _, (h2 6 (by decide) (by kernel_rfl)).trans e0, hB2, setRow_heap _ _ _ _ _ _ hg, rfl⟩)
    | 8, ho =>
      obtain rfl := Option.some.inj ho
      have e2 : a'.eval (.tmp 20) = .int .i64 (arity 3 : Nat) := (sv_dst (l := _) rfl).symm.trans (hA.new 5 (by decide) (by kernel_rfl))
      exact GoesG.assign (.tmp 20) rfl rfl (Grow.refl _ _ _ _) (fun s h1 h2 => (h1 rfl).trans e2)
    | i + 9, ho => cases ho
  · intro vs W hvs hG hΦ
    obtain ⟨v0, v1, v2, v3, v4, v5, v6, v7, v8, rfl⟩ := nine vs hvs
    have h8 : v8 = .int .i64 1 := (hΦ 8 (by decide)).trans (by rfl)
    obtain ⟨g, cc, h6, hBg, hg, hcc⟩ : ∃ g cc, v6 = .pointer (some ⟨g, 0, none⟩) ∧ B < g ∧ W.heap[g]? = some (.cells cc tEx (0, 0)) ∧ cc = exC 3 o nm v p m c := hΦ 7 (by decide)
    subst hcc h8 h6
    have hE : Ext W0 W := by rw [← hWs] at hG; exact hG.ext
    have hb : W.heap[B]? = some (.cells (exC 3 o nm v p m c) tEx (0, 0)) := (hE.below.block B (lt_of_block hbox)).trans hbox
    have hwB : Ext w W := by rw [hW0] at hE; exact Ext.trans ((Below.refl _ w).alloc (Nat.le_refl _) _) hE
    clear hΦ hG hE hbox hWs
    simp only [putAll, Act.put, List.setIfInBounds_toArray, List.set_cons_succ, List.set_cons_zero]
    have b0 : W.cell? ⟨B, 0, none⟩ = some (.int .i64 3) := cell_of hb rfl
    have b1 : W.cell? ⟨B, 1, none⟩ = some (.int .i64 o) := cell_of hb rfl
    have b2 : W.cell? ⟨B, 2, none⟩ = some (sV nm) := cell_of hb rfl
    have b3 : W.cell? ⟨B, 3, none⟩ = some (.int .i64 v) := cell_of hb rfl
    have b4 : W.cell? ⟨B, 4, none⟩ = some (.slice p m c) := cell_of hb rfl
    have g1 : W.cell? ⟨g, 1, none⟩ = some (.int .i64 o) := cell_of hg rfl
    have g2 : W.cell? ⟨g, 2, none⟩ = some (sV nm) := cell_of hg rfl
    have g3 : W.cell? ⟨g, 3, none⟩ = some (.int .i64 v) := cell_of hg rfl
    have f1 : ∀ i, W.frozen? ⟨g, i, none⟩ = false := fun i => free_of hg
    have n1 : ¬ B = g := by omega
    have n2 : ¬ g = B := by omega
    have HG := Lib.hid hg
    have HB := Lib.hid hb
    have HW := Lib.hid hwB
    have HL := Lib.hid hBg
    have HS := Lib.hid (fun (off : Nat) (x : Value) => show Ext w (W.setCell ⟨g, off, none⟩ x) from Below.setCell hwB (show w.heap.size ≤ g by omega) x)
    clear hg hb hwB hBg hvs hW0 hB
    clear W0
    by_cases hn : nm = []
    rotate_left
    · have hn1 : nm.isEmpty = false := by simpa using hn
      have HZ := Lib.hid (show pc' 3 o nm v m = 1 by simp [pc', hn])
      go_wp2
      all_goals (go_ret; exact ⟨by rw [HZ.out]; rfl, HS.out _ _⟩)
    subst hn
    by_cases hv : v = 0
    rotate_left
    · have q_v1 : (v == 0) = false := by simp; omega
      have q_v2 : (v != 0) = true := by simp; omega
      have HZ := Lib.hid (show pc' 3 o [] v m = 1 by simp [pc', hv])
      go_wp2
      all_goals (go_ret; exact ⟨by rw [HZ.out]; rfl, HS.out _ _⟩)
    subst hv
    by_cases hm : m = 1
    rotate_left
    · have q_m1 : ((m : Int) == 1) = false := by simp; omega
      have q_m2 : ((m : Int) != 1) = true := by simp; omega
      have HZ := Lib.hid (show pc' 3 o [] 0 m = 1 by simp [pc', arity, hm])
      go_wp2
      all_goals (go_ret; exact ⟨by rw [HZ.out]; rfl, HS.out _ _⟩)
    subst hm
    go_wp2
    obtain ⟨W2, hW2⟩ : ∃ W2, W2 = W.setCell ⟨g, 1, none⟩ (.int .i64 0) := ⟨_, rfl⟩
    have hb2 : W2.heap[B]? = some (.cells (exC 3 o [] 0 p 1 c) tEx (0, 0)) := by rw [hW2]; exact (Below.heap_setCell _ _ _ _ n1).trans HB.out
    have hE2 : Ext w W2 := by rw [hW2]; exact HS.out _ _
    rw [← hW2]
    have hlt2 := lt_of_block hb2
    clear b0 b1 b2 b3 b4 g1 g2 g3 f1 hW2
    refine wp_region_g (by kernel_rfl) (Grow W2.heap.size tOp (fun _ => True)) (Grow.drawn _ _ _) Grow.trans (ck12 B W2.heap.size o) (fun j => [j]) (ck12_st B _ o) (by kernel_rfl) (by kernel_rfl) (by kernel_rfl) 104 rfl (by kernel_rfl) ?_ ?_
    · intro i op ho a' W hA
      have hb : W.heap[B]? = some (.cells (exC 3 o [] 0 p 1 c) tEx (0, 0)) := (hA.rel.low hlt2 hlt2).trans hb2
      have c1 : W.cell? ⟨B, 1, none⟩ = some (.int .i64 o) := cell_of hb rfl
      match i, ho with
      | 0, ho =>
        obtain rfl := Option.some.inj ho
        refine GoesG.call 86 #[] rfl ?_ ((operators_any W).mono ?_)
        · simp [execOp, resolve, invoke, Deferred.ofValue]
          rfl
        · rintro e W1 ⟨b, rfl, hO, hE⟩
          exact ⟨_, rfl, Grow.of_ext hE, fun s h1 h2 => ⟨b, h1 rfl, hO⟩⟩
      | 1, ho =>
        obtain rfl := Option.some.inj ho
        have e1 : a'.eval (.tmp 1) = .pointer (some ⟨B, 0, none⟩) := hA.keep 1 (by kernel_rfl)
        refine GoesG.value (.pointer (some ⟨B, 1, none⟩)) rfl ?_ (Grow.refl _ _ _ _) (fun s h1 h2 => h1 rfl)
        simp only [execOp, e1]
        simp [go_sem]
      | 2, ho =>
        obtain rfl := Option.some.inj ho
        have e1 : a'.eval (.tmp 52) = .pointer (some ⟨B, 1, none⟩) := (sv_dst (l := _) rfl).symm.trans (hA.new 1 (by decide) (by kernel_rfl))
        refine GoesG.value (.int .i64 o) rfl ?_ (Grow.refl _ _ _ _) (fun s h1 h2 => h1 rfl)
        simp only [execOp, e1]
        simp [go_sem, c1]
      | 3, ho =>
        obtain rfl := Option.some.inj ho
        obtain ⟨b, e0, hO⟩ := hA.new 0 (by decide) (by kernel_rfl)
        have e1 : a'.eval (.tmp 51) = .map (some b) := (sv_dst (l := _) rfl).symm.trans e0
        have e2 : a'.eval (.tmp 53) = .int .i64 o := (sv_dst (l := _) rfl).symm.trans (hA.new 2 (by decide) (by kernel_rfl))
        obtain ⟨x, hx, hrun⟩ : ∃ x, Five x ∧ (Instr.lookup 102 (.map (some b)) (.int .i64 o) true).run Tryz.prog W = .ok (.tuple #[.agg x, .bool (knownB o)]) W := by
          cases hk : knownB o with
          | true =>
            obtain ⟨fv, hf, hr⟩ := ops_yes hO o hk
            obtain ⟨x, hx, he⟩ := five_val (opOf o) fv W o hf
            exact ⟨x, hx, by have := hr true; rw [he] at this; simpa using this⟩
          | false =>
            obtain ⟨x, hx, he⟩ := five_zero
            exact ⟨x, hx, by have := ops_no hO o hk true; rw [he] at this; simpa using this⟩
        refine GoesG.value _ rfl ?_ (Grow.refl _ _ _ _) (fun s h1 h2 => ⟨x, hx, h1 rfl⟩)
        simp only [execOp, e1, e2, Sem.run_bind, hrun, Result.andThen_ok, Sem.run_pure]
      | 4, ho =>
        obtain rfl := Option.some.inj ho
        obtain ⟨x, hx, e0⟩ := hA.new 3 (by decide) (by kernel_rfl)
        have e1 : a'.eval (.tmp 54) = .tuple #[.agg x, .bool (knownB o)] := (sv_dst (l := _) rfl).symm.trans e0
        exact GoesG.move (.tmp 54) rfl rfl (Grow.refl _ _ _ _) (fun s h1 h2 => ⟨x, hx, (h1 rfl).trans e1⟩)
      | 5, ho =>
        obtain rfl := Option.some.inj ho
        obtain ⟨x, hx, e0⟩ := hA.new 4 (by decide) (by kernel_rfl)
        have e1 : a'.eval (.tmp 50) = .tuple #[.agg x, .bool (knownB o)] := (sv_dst (l := _) rfl).symm.trans e0
        refine GoesG.value (.agg x) rfl ?_ (Grow.refl _ _ _ _) (fun s h1 h2 => ⟨x, hx, h1 rfl⟩)
        simp only [execOp, e1]
        simp [go_sem]
      | 6, ho =>
        obtain rfl := Option.some.inj ho
        obtain ⟨x, hx, e0⟩ := hA.new 4 (by decide) (by kernel_rfl)
        have e1 : a'.eval (.tmp 50) = .tuple #[.agg x, .bool (knownB o)] := (sv_dst (l := _) rfl).symm.trans e0
        refine GoesG.value (.bool (knownB o)) rfl ?_ (Grow.refl _ _ _ _) (fun s h1 h2 => h1 rfl)
        simp only [execOp, e1]
        simp [go_sem]
      | 7, ho =>
        obtain rfl := Option.some.inj ho
        refine GoesG.value (.pointer (some ⟨W.heap.size, 0, none⟩)) (W' := W.alloc (.cells #[sV [], .int .i64 0, .int .i64 0, .int .i64 0, .nilFunc] tOp)) rfl ?_ (Grow.of_ext ((Below.refl _ W).alloc (Nat.le_refl _) _)) (fun s h1 h2 => ⟨_, _, h1 rfl, hA.rel.size, alloc_here _ _, rfl⟩)
        simp only [execOp]
        simp [go_sem]
        rfl
      | 8, ho =>
        obtain rfl := Option.some.inj ho
        obtain ⟨g, cc, e0, hB2, hg, hcc⟩ := hA.new 7 (by decide) (by kernel_rfl)
        obtain ⟨x, hx, e5⟩ := hA.new 5 (by decide) (by kernel_rfl)
        have e1 : a'.eval (.tmp 5) = .pointer (some ⟨g, 0, none⟩) := (sv_dst (l := _) rfl).symm.trans e0
        have e2 : a'.eval (.tmp 55) = .agg x := (sv_dst (l := _) rfl).symm.trans e5
        exact GoesG.store rfl tOp (.tmp 5) (.tmp 55) rfl g x e1 e2 tOp cc hg (by rw [hx.1]; kernel_rfl) (hcc.trans hx.1.symm) hx.2 rfl (Grow.row hg hB2 (hx.1.trans hcc.symm) trivial)
          (fun s h2 => trivial)
      | 9, ho =>
        obtain rfl := Option.some.inj ho
        have e2 : a'.eval (.tmp 56) = .bool (knownB o) := (sv_dst (l := _) rfl).symm.trans (hA.new 6 (by decide) (by kernel_rfl))
        exact GoesG.assign (.tmp 56) rfl rfl (Grow.refl _ _ _ _) (fun s h1 h2 => (h1 rfl).trans e2)
      | i + 10, ho => cases ho
    · intro vs W3 hvs hG hΦ
      obtain ⟨u0, u1, u2, u3, u4, u5, u6, u7, u8, u9, rfl⟩ := ten vs hvs
      have h9 : u9 = .bool (knownB o) := hΦ 9 (by decide)
      subst h9
      have hE3 := Lib.hid (Ext.trans hE2 hG.ext)
      have hb3 : W3.heap[B]? = some (.cells (exC 3 o [] 0 p 1 c) tEx (0, 0)) := (hG.low hlt2 hlt2).trans hb2
      have b0 : W3.cell? ⟨B, 0, none⟩ = some (.int .i64 3) := cell_of hb3 rfl
      have b1 : W3.cell? ⟨B, 1, none⟩ = some (.int .i64 o) := cell_of hb3 rfl
      have b2 : W3.cell? ⟨B, 2, none⟩ = some (sV []) := cell_of hb3 rfl
      have b3 : W3.cell? ⟨B, 3, none⟩ = some (.int .i64 0) := cell_of hb3 rfl
      clear hΦ hG hb2 hE2 hlt2 hvs hb3 n1 n2 HL HS HW HB HG
      clear W2 W
      simp only [putAll, Act.put, List.setIfInBounds_toArray, List.set_cons_succ, List.set_cons_zero]
      by_cases h1 : o = 1
      · subst h1
        have hk : knownB 1 = false := by decide
        have HZ := Lib.hid (show pc' 3 1 [] 0 1 = 0 by simp [pc', arity])
        go_wp2
        go_ret
        exact ⟨by rw [HZ.out]; rfl, hE3.out⟩
      by_cases h2 : o = 2
      · subst h2
        have hk : knownB 2 = false := by decide
        have HZ := Lib.hid (show pc' 3 2 [] 0 1 = 0 by simp [pc', arity])
        go_wp2
        go_ret
        exact ⟨by rw [HZ.out]; rfl, hE3.out⟩
      · have q_o1 : (o == 1) = false := by simp; omega
        have q_o2 : (o != 1) = true := by simp; omega
        have p_o1 : (o == 2) = false := by simp; omega
        have p_o2 : (o != 2) = true := by simp; omega
        have HZ := Lib.hid (show pc' 3 o [] 0 1 = 8 by simp [pc', arity, h1, h2])
        go_wp2
        go_ret
        exact ⟨by rw [HZ.out]; rfl, hE3.out⟩

set_option maxRecDepth 100000 in
set_option maxHeartbeats 4000000 in
theorem check_k4 (o : Int) (nm : List UInt8) (v : Int) (p : Option Addr) (m c : Nat) (w : World) (hn0 : nm.length ≤ 140737488355328) (hm0 : m ≤ 2199023255488) :
    Gives Tryz.prog 63 #[.agg (exC 4 o nm v p m c)] w (.int .i64 (pc' 4 o nm v m)) := by
  unfold Gives
  show Calls _ _ #[.agg #[.int .i64 4, .int .i64 o, sV nm, .int .i64 v, .slice p m c]] _ _
  go_enter Tryz.func63, Tryz.ntmps63
  go_wp2
  obtain ⟨B, hB⟩ : ∃ B, B = w.heap.size := ⟨_, rfl⟩
  obtain ⟨W0, hW0⟩ : ∃ W, W = w.alloc (.cells (exC 4 o nm v p m c) tEx) := ⟨_, rfl⟩
  have hbox : W0.heap[B]? = some (.cells (exC 4 o nm v p m c) tEx (0, 0)) := by rw [hW0, hB]; exact alloc_here _ _
  have hWs : W0.heap.size = B + 1 := by rw [hW0, hB]; simp
  change Code.wp _ _ _ _ (w.alloc (.cells (exC 4 o nm v p m c) tEx))
  rw [← hW0, ← hB]
  refine wp_region_g (by kernel_rfl) (Grow (B + 1) tEx (fun c' => c' = exC 4 o nm v p m c)) (Grow.drawn _ _ _) Grow.trans (ck3 B 4 (exC 4 o nm v p m c)) ck3D (ck3_st B 4 _) (by kernel_rfl) (by kernel_rfl) (by kernel_rfl) 104 rfl (by kernel_rfl) ?_ ?_
  · intro i op ho a' W hA
    have hb : W.heap[B]? = some (.cells (exC 4 o nm v p m c) tEx (0, 0)) := (hA.rel.low (by omega) (by omega)).trans hbox
    have hlt : B < W.heap.size := lt_of_block hb
    have c0 : W.cell? ⟨B, 0, none⟩ = some (.int .i64 4) := cell_of hb rfl
    have c1 : W.cell? ⟨B, 1, none⟩ = some (.int .i64 o) := cell_of hb rfl
    have c2 : W.cell? ⟨B, 2, none⟩ = some (sV nm) := cell_of hb rfl
    have c3 : W.cell? ⟨B, 3, none⟩ = some (.int .i64 v) := cell_of hb rfl
    have c4 : W.cell? ⟨B, 4, none⟩ = some (.slice p m c) := cell_of hb rfl
    match i, ho with
    | 0, ho =>
      obtain rfl := Option.some.inj ho
      have e1 : a'.eval (.tmp 1) = .pointer (some ⟨B, 0, none⟩) := hA.keep 1 (by kernel_rfl)
      refine GoesG.value (.agg (exC 4 o nm v p m c)) rfl ?_ (Grow.refl _ _ _ _) (fun s h1 h2 => h1 rfl)
      simp only [execOp, e1]
      simp [go_sem, c0, c1, c2, c3, c4, exC]
    | 1, ho =>
      obtain rfl := Option.some.inj ho
      refine GoesG.value (.slice (some ⟨W.heap.size, 0, none⟩) 5 5) (W' := W.alloc (.cells arC tInt)) rfl ?_ (Grow.of_ext ((Below.refl _ W).alloc (Nat.le_refl _) _)) (fun s h1 h2 => ⟨_, h1 rfl, alloc_here _ _⟩)
      simp only [execOp]
      simp [go_sem]
      rfl
    | 2, ho =>
      obtain rfl := Option.some.inj ho
      have e1 : a'.eval (.tmp 1) = .pointer (some ⟨B, 0, none⟩) := hA.keep 1 (by kernel_rfl)
      refine GoesG.value (.pointer (some ⟨B, 0, none⟩)) rfl ?_ (Grow.refl _ _ _ _) (fun s h1 h2 => h1 rfl)
      simp only [execOp, e1]
      simp [go_sem]
    | 3, ho =>
      obtain rfl := Option.some.inj ho
      have e1 : a'.eval (.tmp 17) = .pointer (some ⟨B, 0, none⟩) := (sv_dst (l := _) rfl).symm.trans (hA.new 2 (by decide) (by kernel_rfl))
      refine GoesG.value (.int .i64 4) rfl ?_ (Grow.refl _ _ _ _) (fun s h1 h2 => h1 rfl)
      simp only [execOp, e1]
      simp [go_sem, c0]
    | 4, ho =>
      obtain rfl := Option.some.inj ho
      obtain ⟨g, e0, hg⟩ := hA.new 1 (by decide) (by kernel_rfl)
      have e1 : a'.eval (.tmp 16) = .slice (some ⟨g, 0, none⟩) 5 5 := (sv_dst (l := _) rfl).symm.trans e0
      have e2 : a'.eval (.tmp 18) = .int .i64 4 := (sv_dst (l := _) rfl).symm.trans (hA.new 3 (by decide) (by kernel_rfl))
      refine GoesG.value (.pointer (some ⟨g, 4, none⟩)) rfl ?_ (Grow.refl _ _ _ _) (fun s h1 h2 => ⟨g, h1 rfl, hg⟩)
      simp only [execOp, e1, e2]
      simp [go_sem]
    | 5, ho =>
      obtain rfl := Option.some.inj ho
      obtain ⟨g, e0, hg⟩ := hA.new 4 (by decide) (by kernel_rfl)
      have e1 : a'.eval (.tmp 19) = .pointer (some ⟨g, 4, none⟩) := (sv_dst (l := _) rfl).symm.trans e0
      have d1 : W.cell? ⟨g, 4, none⟩ = some (.int .i64 (arity 4 : Nat)) := cell_of hg rfl
      refine GoesG.value (.int .i64 (arity 4 : Nat)) rfl ?_ (Grow.refl _ _ _ _) (fun s h1 h2 => h1 rfl)
      simp only [execOp, e1]
      simp [go_sem, d1]
    | 6, ho =>
      obtain rfl := Option.some.inj ho
      refine GoesG.value (.pointer (some ⟨W.heap.size, 0, none⟩)) (W' := W.alloc (.cells #[.int .i64 0, .int .i64 0, sV [], .int .i64 0, .slice none 0 0] tEx)) rfl ?_ (Grow.of_ext ((Below.refl _ W).alloc (Nat.le_refl _) _)) (fun s h1 h2 => ⟨_, _, h1 rfl, hlt, alloc_here _ _, rfl⟩)
      simp only [execOp]
      simp [go_sem]
      rfl
    | 7, ho =>
      obtain rfl := Option.some.inj ho
      obtain ⟨g, cc, e0, hB2, hg, hcc⟩ := hA.new 6 (by decide) (by kernel_rfl)
      have e1 : a'.eval (.tmp 3) = .pointer (some ⟨g, 0, none⟩) := (sv_dst (l := _) rfl).symm.trans e0
      have e2 : a'.eval (.tmp 15) = .agg (exC 4 o nm v p m c) := (sv_dst (l := _) rfl).symm.trans (hA.new 0 (by decide) (by kernel_rfl))
      exact GoesG.store rfl tEx (.tmp 3) (.tmp 15) rfl g (exC 4 o nm v p m c) e1 e2 tEx cc hg (by kernel_rfl) hcc (by simp [exC, Value.oneCell']) rfl (Grow.row hg (by omega) hcc.symm rfl)
        (fun s h2 => ⟨g, _, (h2 6 (by decide) (by kernel_rfl)).trans e0, hB2, setRow_heap _ _ _ _ _ _ hg, rfl⟩)
    | 8, ho =>
      obtain rfl := Option.some.inj ho
      have e2 : a'.eval (.tmp 20) = .int .i64 (arity 4 : Nat) := (sv_dst (l := _) rfl).symm.trans (hA.new 5 (by decide) (by kernel_rfl))
      exact GoesG.assign (.tmp 20) rfl rfl (Grow.refl _ _ _ _) (fun s h1 h2 => (h1 rfl).trans e2)
    | i + 9, ho => cases ho
  · intro vs W hvs hG hΦ
    obtain ⟨v0, v1, v2, v3, v4, v5, v6, v7, v8, rfl⟩ := nine vs hvs
    have h8 : v8 = .int .i64 2 := (hΦ 8 (by decide)).trans (by rfl)
    obtain ⟨g, cc, h6, hBg, hg, hcc⟩ : ∃ g cc, v6 = .pointer (some ⟨g, 0, none⟩) ∧ B < g ∧ W.heap[g]? = some (.cells cc tEx (0, 0)) ∧ cc = exC 4 o nm v p m c := hΦ 7 (by decide)
    subst hcc h8 h6
    have hE : Ext W0 W := by rw [← hWs] at hG; exact hG.ext
    have hb : W.heap[B]? = some (.cells (exC 4 o nm v p m c) tEx (0, 0)) := (hE.below.block B (lt_of_block hbox)).trans hbox
    have hwB : Ext w W := by rw [hW0] at hE; exact Ext.trans ((Below.refl _ w).alloc (Nat.le_refl _) _) hE
    clear hΦ hG hE hbox hWs
    simp only [putAll, Act.put, List.setIfInBounds_toArray, List.set_cons_succ, List.set_cons_zero]
    have b0 : W.cell? ⟨B, 0, none⟩ = some (.int .i64 4) := cell_of hb rfl
    have b1 : W.cell? ⟨B, 1, none⟩ = some (.int .i64 o) := cell_of hb rfl
    have b2 : W.cell? ⟨B, 2, none⟩ = some (sV nm) := cell_of hb rfl
    have b3 : W.cell? ⟨B, 3, none⟩ = some (.int .i64 v) := cell_of hb rfl
    have b4 : W.cell? ⟨B, 4, none⟩ = some (.slice p m c) := cell_of hb rfl
    have g1 : W.cell? ⟨g, 1, none⟩ = some (.int .i64 o) := cell_of hg rfl
    have g2 : W.cell? ⟨g, 2, none⟩ = some (sV nm) := cell_of hg rfl
    have g3 : W.cell? ⟨g, 3, none⟩ = some (.int .i64 v) := cell_of hg rfl
    have f1 : ∀ i, W.frozen? ⟨g, i, none⟩ = false := fun i => free_of hg
    have n1 : ¬ B = g := by omega
    have n2 : ¬ g = B := by omega
    have HG := Lib.hid hg
    have HB := Lib.hid hb
    have HW := Lib.hid hwB
    have HL := Lib.hid hBg
    have HS := Lib.hid (fun (off : Nat) (x : Value) => show Ext w (W.setCell ⟨g, off, none⟩ x) from Below.setCell hwB (show w.heap.size ≤ g by omega) x)
    clear hg hb hwB hBg hvs hW0 hB
    clear W0
    by_cases hn : nm = []
    rotate_left
    · have hn1 : nm.isEmpty = false := by simpa using hn
      have HZ := Lib.hid (show pc' 4 o nm v m = 1 by simp [pc', hn])
      go_wp2
      all_goals (go_ret; exact ⟨by rw [HZ.out]; rfl, HS.out _ _⟩)
    subst hn
    by_cases hv : v = 0
    rotate_left
    · have q_v1 : (v == 0) = false := by simp; omega
      have q_v2 : (v != 0) = true := by simp; omega
      have HZ := Lib.hid (show pc' 4 o [] v m = 1 by simp [pc', hv])
      go_wp2
      all_goals (go_ret; exact ⟨by rw [HZ.out]; rfl, HS.out _ _⟩)
    subst hv
    by_cases hm : m = 2
    rotate_left
    · have q_m1 : ((m : Int) == 2) = false := by simp; omega
      have q_m2 : ((m : Int) != 2) = true := by simp; omega
      have HZ := Lib.hid (show pc' 4 o [] 0 m = 1 by simp [pc', arity, hm])
      go_wp2
      all_goals (go_ret; exact ⟨by rw [HZ.out]; rfl, HS.out _ _⟩)
    subst hm
    go_wp2
    obtain ⟨W2, hW2⟩ : ∃ W2, W2 = W.setCell ⟨g, 1, none⟩ (.int .i64 0) := ⟨_, rfl⟩
    have hb2 : W2.heap[B]? = some (.cells (exC 4 o [] 0 p 2 c) tEx (0, 0)) := by rw [hW2]; exact (Below.heap_setCell _ _ _ _ n1).trans HB.out
    have hE2 : Ext w W2 := by rw [hW2]; exact HS.out _ _
    rw [← hW2]
    have hlt2 := lt_of_block hb2
    clear b0 b1 b2 b3 b4 g1 g2 g3 f1 hW2
    refine wp_region_g (by kernel_rfl) (Grow W2.heap.size tOp (fun _ => True)) (Grow.drawn _ _ _) Grow.trans (ck12 B W2.heap.size o) (fun j => [j]) (ck12_st B _ o) (by kernel_rfl) (by kernel_rfl) (by kernel_rfl) 104 rfl (by kernel_rfl) ?_ ?_
    · intro i op ho a' W hA
      have hb : W.heap[B]? = some (.cells (exC 4 o [] 0 p 2 c) tEx (0, 0)) := (hA.rel.low hlt2 hlt2).trans hb2
      have c1 : W.cell? ⟨B, 1, none⟩ = some (.int .i64 o) := cell_of hb rfl
      match i, ho with
      | 0, ho =>
        obtain rfl := Option.some.inj ho
        refine GoesG.call 86 #[] rfl ?_ ((operators_any W).mono ?_)
        · simp [execOp, resolve, invoke, Deferred.ofValue]
          rfl
        · rintro e W1 ⟨b, rfl, hO, hE⟩
          exact ⟨_, rfl, Grow.of_ext hE, fun s h1 h2 => ⟨b, h1 rfl, hO⟩⟩
      | 1, ho =>
        obtain rfl := Option.some.inj ho
        have e1 : a'.eval (.tmp 1) = .pointer (some ⟨B, 0, none⟩) := hA.keep 1 (by kernel_rfl)
        refine GoesG.value (.pointer (some ⟨B, 1, none⟩)) rfl ?_ (Grow.refl _ _ _ _) (fun s h1 h2 => h1 rfl)
        simp only [execOp, e1]
        simp [go_sem]
      | 2, ho =>
        obtain rfl := Option.some.inj ho
        have e1 : a'.eval (.tmp 52) = .pointer (some ⟨B, 1, none⟩) := (sv_dst (l := _) rfl).symm.trans (hA.new 1 (by decide) (by kernel_rfl))
        refine GoesG.value (.int .i64 o) rfl ?_ (Grow.refl _ _ _ _) (fun s h1 h2 => h1 rfl)
        simp only [execOp, e1]
        simp [go_sem, c1]
      | 3, ho =>
        obtain rfl := Option.some.inj ho
        obtain ⟨b, e0, hO⟩ := hA.new 0 (by decide) (by kernel_rfl)
        have e1 : a'.eval (.tmp 51) = .map (some b) := (sv_dst (l := _) rfl).symm.trans e0
        have e2 : a'.eval (.tmp 53) = .int .i64 o := (sv_dst (l := _) rfl).symm.trans (hA.new 2 (by decide) (by kernel_rfl))
        obtain ⟨x, hx, hrun⟩ : ∃ x, Five x ∧ (Instr.lookup 102 (.map (some b)) (.int .i64 o) true).run Tryz.prog W = .ok (.tuple #[.agg x, .bool (knownB o)]) W := by
          cases hk : knownB o with
          | true =>
            obtain ⟨fv, hf, hr⟩ := ops_yes hO o hk
            obtain ⟨x, hx, he⟩ := five_val (opOf o) fv W o hf
            exact ⟨x, hx, by have := hr true; rw [he] at this; simpa using this⟩
          | false =>
            obtain ⟨x, hx, he⟩ := five_zero
            exact ⟨x, hx, by have := ops_no hO o hk true; rw [he] at this; simpa using this⟩
        refine GoesG.value _ rfl ?_ (Grow.refl _ _ _ _) (fun s h1 h2 => ⟨x, hx, h1 rfl⟩)
        simp only [execOp, e1, e2, Sem.run_bind, hrun, Result.andThen_ok, Sem.run_pure]
      | 4, ho =>
        obtain rfl := Option.some.inj ho
        obtain ⟨x, hx, e0⟩ := hA.new 3 (by decide) (by kernel_rfl)
        have e1 : a'.eval (.tmp 54) = .tuple #[.agg x, .bool (knownB o)] := (sv_dst (l := _) rfl).symm.trans e0
        exact GoesG.move (.tmp 54) rfl rfl (Grow.refl _ _ _ _) (fun s h1 h2 => ⟨x, hx, (h1 rfl).trans e1⟩)
      | 5, ho =>
        obtain rfl := Option.some.inj ho
        obtain ⟨x, hx, e0⟩ := hA.new 4 (by decide) (by kernel_rfl)
        have e1 : a'.eval (.tmp 50) = .tuple #[.agg x, .bool (knownB o)] := (sv_dst (l := _) rfl).symm.trans e0
        refine GoesG.value (.agg x) rfl ?_ (Grow.refl _ _ _ _) (fun s h1 h2 => ⟨x, hx, h1 rfl⟩)
        simp only [execOp, e1]
        simp [go_sem]
      | 6, ho =>
        obtain rfl := Option.some.inj ho
        obtain ⟨x, hx, e0⟩ := hA.new 4 (by decide) (by kernel_rfl)
        have e1 : a'.eval (.tmp 50) = .tuple #[.agg x, .bool (knownB o)] := (sv_dst (l := _) rfl).symm.trans e0
        refine GoesG.value (.bool (knownB o)) rfl ?_ (Grow.refl _ _ _ _) (fun s h1 h2 => h1 rfl)
        simp only [execOp, e1]
        simp [go_sem]
      | 7, ho =>
        obtain rfl := Option.some.inj ho
        refine GoesG.value (.pointer (some ⟨W.heap.size, 0, none⟩)) (W' := W.alloc (.cells #[sV [], .int .i64 0, .int .i64 0, .int .i64 0, .nilFunc] tOp)) rfl ?_ (Grow.of_ext ((Below.refl _ W).alloc (Nat.le_refl _) _)) (fun s h1 h2 => ⟨_, _, h1 rfl, hA.rel.size, alloc_here _ _, rfl⟩)
        simp only [execOp]
        simp [go_sem]
        rfl
      | 8, ho =>
        obtain rfl := Option.some.inj ho
        obtain ⟨g, cc, e0, hB2, hg, hcc⟩ := hA.new 7 (by decide) (by kernel_rfl)
        obtain ⟨x, hx, e5⟩ := hA.new 5 (by decide) (by kernel_rfl)
        have e1 : a'.eval (.tmp 5) = .pointer (some ⟨g, 0, none⟩) := (sv_dst (l := _) rfl).symm.trans e0
        have e2 : a'.eval (.tmp 55) = .agg x := (sv_dst (l := _) rfl).symm.trans e5
        exact GoesG.store rfl tOp (.tmp 5) (.tmp 55) rfl g x e1 e2 tOp cc hg (by rw [hx.1]; kernel_rfl) (hcc.trans hx.1.symm) hx.2 rfl (Grow.row hg hB2 (hx.1.trans hcc.symm) trivial)
          (fun s h2 => trivial)
      | 9, ho =>
        obtain rfl := Option.some.inj ho
        have e2 : a'.eval (.tmp 56) = .bool (knownB o) := (sv_dst (l := _) rfl).symm.trans (hA.new 6 (by decide) (by kernel_rfl))
        exact GoesG.assign (.tmp 56) rfl rfl (Grow.refl _ _ _ _) (fun s h1 h2 => (h1 rfl).trans e2)
      | i + 10, ho => cases ho
    · intro vs W3 hvs hG hΦ
      obtain ⟨u0, u1, u2, u3, u4, u5, u6, u7, u8, u9, rfl⟩ := ten vs hvs
      have h9 : u9 = .bool (knownB o) := hΦ 9 (by decide)
      subst h9
      have hE3 := Lib.hid (Ext.trans hE2 hG.ext)
      have hb3 : W3.heap[B]? = some (.cells (exC 4 o [] 0 p 2 c) tEx (0, 0)) := (hG.low hlt2 hlt2).trans hb2
      have b0 : W3.cell? ⟨B, 0, none⟩ = some (.int .i64 4) := cell_of hb3 rfl
      have b1 : W3.cell? ⟨B, 1, none⟩ = some (.int .i64 o) := cell_of hb3 rfl
      have b2 : W3.cell? ⟨B, 2, none⟩ = some (sV []) := cell_of hb3 rfl
      have b3 : W3.cell? ⟨B, 3, none⟩ = some (.int .i64 0) := cell_of hb3 rfl
      clear hΦ hG hb2 hE2 hlt2 hvs hb3 n1 n2 HL HS HW HB HG
      clear W2 W
      simp only [putAll, Act.put, List.setIfInBounds_toArray, List.set_cons_succ, List.set_cons_zero]
      cases hk : knownB o
      · have hk2 : ¬ (3 ≤ o ∧ o ≤ 15) := by simpa [knownB] using hk
        have HZ := Lib.hid (show pc' 4 o [] 0 2 = 8 by simp [pc', arity]; omega)
        clear hk2
        go_wp2
        go_ret
        exact ⟨by rw [HZ.out]; rfl, hE3.out⟩
      · have hk2 : 3 ≤ o ∧ o ≤ 15 := by simpa [knownB] using hk
        have HZ := Lib.hid (show pc' 4 o [] 0 2 = 0 by simp [pc', arity]; omega)
        clear hk2
        go_wp2
        go_ret
        exact ⟨by rw [HZ.out]; rfl, hE3.out⟩

theorem check_low (k o : Int) (nm : List UInt8) (v : Int) (p : Option Addr) (m c : Nat) (w : World) (h : k < 1 ∨ 4 < k) : Gives Tryz.prog 63 #[.agg (exC k o nm v p m c)] w (.int .i64 8) := by
  unfold Gives
  show Calls _ _ #[.agg #[.int .i64 k, .int .i64 o, sV nm, .int .i64 v, .slice p m c]] _ _
  rcases h with h | h
  · go_enter Tryz.func63, Tryz.ntmps63
    go_wp2
    go_ret
    exact ⟨rfl, (Below.refl _ w).alloc (Nat.le_refl _) _⟩
  · go_enter Tryz.func63, Tryz.ntmps63
    go_wp2
    go_ret
    exact ⟨rfl, (Below.refl _ w).alloc (Nat.le_refl _) _⟩
/-- why a part alone is not valid -/
theorem check_any (e : Ex) (p : Option Addr) (c : Nat) (w : World) (hf : Ex.fits e) : Gives Tryz.prog 63 #[e.val p c] w (.int .i64 (pc e)) := by
  have h3 := hf.2.2.1
  have h5 := hf.2.2.2.2
  show Gives _ _ #[.agg (exC e.kind e.op e.name e.value p e.args.length c)] _ _
  unfold pc
  generalize e.kind = k at *
  generalize e.op = o at *
  generalize e.name = nm at *
  generalize e.value = v at *
  generalize e.args.length = m at *
  by_cases h : k < 1 ∨ 4 < k
  · rw [show pc' k o nm v m = 8 by simp [pc', h]]
    exact check_low k o nm v p m c w h
  · obtain rfl | rfl | rfl | rfl : k = 1 ∨ k = 2 ∨ k = 3 ∨ k = 4 := by omega
    · exact check_k1 o nm v p m c w h3 h5
    · exact check_k2 o nm v p m c w h3 h5
    · exact check_k3 o nm v p m c w h3 h5
    · exact check_k4 o nm v p m c w h3 h5

end Go.Proofs.YtmokejjndkibhaaGreatDoor

namespace Go.Proofs.YtmokejjndkibhaaGreatDoor
open Go.RowKit
set_option linter.unusedVariables false
set_option linter.unusedSimpArgs false
open Ex

set_option maxHeartbeats 1000000 in
theorem refsize_any : ∀ (n : Nat) (e : Ex), e.size ≤ n → ∀ (p : Option Addr) (c : Nat) (m : Nat) (w : World), Ex.At w p e → m ≤ 100 →
    Calls Tryz.prog 97 #[e.val p c, .int .i64 (m : Int)] w fun x w' => ∃ r : Nat, x = .returned (.int .i64 (r : Int)) ∧ Below w.heap.size w w' ∧ r ≤ 101 ∧ (m + e.size ≤ 100 → r = m + e.size) ∧ (100 < m + e.size → 100 < r) := by
  intro n
  induction n with
  | zero => intro e he; have := e.size_pos; omega
  | succ n ih =>
    intro e he p c m w hA hm
    obtain ⟨k, o, nm, v, ts⟩ := e
    have HA := Lib.hid hA
    have hl : ts.length ≤ 2199023255488 := hA.fit.2.2.2.2
    have HS := Lib.hid (fun j (h : j < ts.length) => size_get ts j h)
    have HT := Lib.hid (sizes_take ts)
    have HM := Lib.hid (sizes_mono ts)
    have hN : (Ex.mk k o nm v ts).size = 1 + sizes ts := rfl
    rw [hN] at he ⊢
    have hv : (Ex.mk k o nm v ts).val p c = .agg #[.int .i64 k, .int .i64 o, sV nm, .int .i64 v, .slice p ts.length c] := rfl
    rw [hv]
    have IH := Lib.hid ih
    clear hA hN hv ih
    go_enter Tryz.func97, Tryz.ntmps97
    go_wp2
    go_loopw [1, 5] (fun a i wr => ∃ (r j : Nat), j ≤ ts.length ∧ a = .int .i64 (r : Int) ∧ i = .int .i64 (j : Int) ∧ Ext (w.alloc (.cells #[.int .i64 k, .int .i64 o, sV nm, .int .i64 v, .slice p ts.length c] 25)) wr ∧ r ≤ 101 ∧ (m + 1 + sizes (ts.take j) ≤ 100 → r = m + 1 + sizes (ts.take j)) ∧ (100 < m + 1 + sizes (ts.take j) → 100 < r)) (fun _ i _ => ts.length - (intOf i).toNat)
    case atStart => exact ⟨m + 1, 0, Nat.zero_le _, by go_num, rfl, Below.refl _ _, by omega, by simp [sizes], by simp [sizes]⟩
    case round =>
      obtain ⟨r, j, hj, rfl, rfl, hE, hr, h1, h2⟩ := hrel
      obtain ⟨b0, b1, b2, b3, b4, hW⟩ := hE.box
      have HE := Lib.hid hE
      clear hE
      by_cases hlt : j < ts.length
      · obtain ⟨b, off, q, cc, rfl, ⟨c0, c1, c2, c3, c4⟩, hA⟩ := (HA.out.below hW).get j hlt
        have hs := HS.out j hlt
        have ht := HT.out j hlt
        by_cases h100 : 100 < r
        · have HR := Lib.hid (show (100 < m + 1 + sizes ts) by have := HM.out j; omega)
          go_wp2
          go_ret
          exact ⟨r, rfl, hW, hr, fun h => absurd HR.out (by omega), fun _ => h100⟩
        · have C := IH.out (ts[j]) (by omega) q cc r wr hA (by omega)
          change Calls _ _ #[.agg #[.int .i64 (ts[j]).kind, .int .i64 (ts[j]).op, sV (ts[j]).name, .int .i64 (ts[j]).value, .slice q (ts[j]).args.length cc], _] _ _ at C
          generalize (ts[j]).kind = k1 at *
          generalize (ts[j]).op = o1 at *
          generalize (ts[j]).name = n1 at *
          generalize (ts[j]).value = v1 at *
          generalize (ts[j]).args.length = l1 at *
          generalize (ts[j]).size = s1 at *
          clear hA
          go_wp2_with fail
          refine C.mono ?_
          rintro e w2 ⟨r2, rfl, hB2, h3, h4, h5⟩
          go_wp2
          go_roundw
          case rel => exact ⟨r2, j + 1, by omega, rfl, by go_num, Ext.trans HE.out hB2, h3, by omega, by omega⟩
          case measure => simp [intOf]; omega
      · have hk : ts.take j = ts := List.take_of_length_le (by omega)
        rw [hk] at h1 h2
        go_wp2
        go_ret
        exact ⟨r, rfl, hW, hr, by omega, by omega⟩

theorem refSize_any (e : Ex) (p : Option Addr) (c : Nat) (w : World) (hA : Ex.At w p e) : Gives Tryz.prog 67 #[e.val p c] w (.int .i64 (min e.size 101 : Nat)) := by
  have C := refsize_any e.size e (Nat.le_refl _) p c 0
  change ∀ (w : World), _ → _ → Calls _ _ #[.agg #[.int .i64 e.kind, .int .i64 e.op, sV e.name, .int .i64 e.value, .slice p e.args.length c], _] _ _ at C
  have C1 := Lib.hid (fun W (h : Ext w W) => C W (hA.below h) (by omega))
  clear C
  unfold Gives Ex.val
  generalize e.kind = k1 at *
  generalize e.op = o1 at *
  generalize e.name = n1 at *
  generalize e.value = v1 at *
  generalize e.args.length = l1 at *
  generalize e.size = s1 at *
  clear hA
  go_enter Tryz.func67, Tryz.ntmps67
  go_wp2_with fail
  refine (C1.out _ ((Below.refl _ w).alloc (Nat.le_refl _) _)).mono ?_
  rintro x w1 ⟨r, rfl, hB, h1, h2, h3⟩
  have HB := Lib.hid (show Below w.heap.size w w1 from Below.trans ((Below.refl _ w).alloc (Nat.le_refl _) _) (hB.mono (by simp)))
  clear hB C1
  by_cases h : 100 < r
  · have hz : ((min s1 101 : Nat) : Int) = 101 := by omega
    have HZ := Lib.hid hz
    clear hz
    go_wp2
    go_ret
    exact ⟨by rw [HZ.out]; rfl, HB.out⟩
  · have hz : ((min s1 101 : Nat) : Int) = (r : Int) := by omega
    have HZ := Lib.hid hz
    clear hz
    go_wp2
    go_ret
    exact ⟨by rw [HZ.out]; rfl, HB.out⟩

end Go.Proofs.YtmokejjndkibhaaGreatDoor

