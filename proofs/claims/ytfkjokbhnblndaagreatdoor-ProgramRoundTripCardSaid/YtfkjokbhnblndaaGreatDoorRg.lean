/- A region that draws its order, whose operations may make memory and store: each operation's result is described by a predicate on the values of the operations that it waits for, and on the world, which a relation of one's own keeps. -/
import Derived.Test.YtfkjokbhnblndaaGreatDoorRel
import Derived.Laws.Tables
import Derived.Laws.Rows
namespace Go.Proofs.YtfkjokbhnblndaaGreatDoor
open Go.RowKit
set_option linter.unusedVariables false

/-- operation j waits for operation i, within n steps -/
def ancB (l : List Oper) : Nat → Nat → Nat → Bool
  | 0, _, _ => false
  | n + 1, j, i => match l[j]? with
    | none => false
    | some o => o.after.toList.any fun e => Region.binds .any e && (decide (e.on = i) || ancB l n e.on i)
/-- the values that the operations have yielded -/
def sv (l : List Oper) (a : Act) (j : Nat) : Value := match (l[j]?).bind (·.dst) with | none => undef | some d => a.tmps.getD d undef
theorem sv_dst {l : List Oper} {a : Act} {j d : Nat} (h : (l[j]?).bind (·.dst) = some d) : sv l a j = a.eval (.tmp d) := by
  unfold sv; rw [h]; rfl

structure AtG (l : List Oper) (R : World → World → Prop) (Φ : Nat → (Nat → Value) → World → Prop) (a : Act) (w : World) (i : Nat) (o : Oper) (a' : Act) (W : World) : Prop where
  rel : R w W
  size : a'.tmps.size = a.tmps.size
  defers : a'.defers = a.defers
  old : ∀ d, (∀ (j : Nat) oj, l[j]? = some oj → oj.dst = some d → ancB l l.length j i = true) → a'.tmps.getD d undef = a.tmps.getD d undef
  new : ∀ j, j < l.length → ancB l l.length i j = true → Φ j (sv l a') W

theorem AtG.keep {l : List Oper} {R : World → World → Prop} {Φ : Nat → (Nat → Value) → World → Prop} {a : Act} {w : World} {i : Nat} {o : Oper} {a' : Act} {W : World} (h : AtG l R Φ a w i o a' W) (d : Nat)
    (h1 : (l.zipIdx.all fun (oj, j) => decide (oj.dst ≠ some d) || ancB l l.length j i) = true) : a'.eval (.tmp d) = a.eval (.tmp d) := by
  refine h.old d (fun j oj hj hd => ?_)
  have := List.all_eq_true.1 h1 (oj, j) (List.mem_zipIdx_iff_getElem?.2 (by simpa using hj))
  simp only [Bool.or_eq_true, decide_eq_true_eq] at this
  rcases this with h2 | h2
  · exact absurd hd h2
  · exact h2

/-- one operation -/
def GoesG (P : Program) (l : List Oper) (R : World → World → Prop) (Φ : Nat → (Nat → Value) → World → Prop) (i : Nat) (o : Oper) (a' : Act) (W : World) (Q : Exit → Act → World → Prop) : Prop :=
  if Region.wanted o (yielded l.toArray a'.tmps) then
    o.wp P a' W (fun a2 W2 => ∃ v, a2 = a'.put o.dst v ∧ R W W2 ∧ ∀ s : Nat → Value, (o.dst.isSome = true → s i = v) → (∀ k, k ≠ i → ancB l l.length i k = true → s k = sv l a' k) → Φ i s W2) Q
  else R W W ∧ ∀ s : Nat → Value, (o.dst.isSome = true → s i = undef) → (∀ k, k ≠ i → ancB l l.length i k = true → s k = sv l a' k) → Φ i s W

theorem anc_back {l : List Oper} (hb : backB l = true) : ∀ n j i, ancB l n j i = true → i < j
  | 0, _, _, h => by simp [ancB] at h
  | n + 1, j, i, h => by
    unfold ancB at h
    split at h
    · cases h
    · rename_i o ho
      obtain ⟨e, he, hh⟩ := List.any_eq_true.1 h
      simp only [Bool.and_eq_true, Bool.or_eq_true, decide_eq_true_eq] at hh
      have h1 := backB_spec hb ho (by simpa using he) hh.1
      rcases hh.2 with h2 | h2
      · omega
      · have := anc_back hb n e.on i h2; omega

/-- the operations that are listed are closed under what they wait for -/
def downC (l : List Oper) (listed : Array Bool) : Prop := ∀ (j : Nat) oj, l[j]? = some oj → listed.getD j false = true → ∀ e ∈ oj.after, Region.binds .any e = true → listed.getD e.on false = true
theorem downC.anc {l : List Oper} {listed : Array Bool} (h : downC l listed) : ∀ n j i, listed.getD j false = true → ancB l n j i = true → listed.getD i false = true
  | 0, _, _, _, h => by simp [ancB] at h
  | n + 1, j, i, hj, ha => by
    unfold ancB at ha
    split at ha
    · cases ha
    · rename_i o ho
      obtain ⟨e, he, hh⟩ := List.any_eq_true.1 ha
      simp only [Bool.and_eq_true, Bool.or_eq_true, decide_eq_true_eq] at hh
      have h1 := h j o ho hj e (by simpa using he) hh.1
      rcases hh.2 with h2 | h2
      · rw [← h2]; exact h1
      · exact downC.anc h n e.on i h1 h2

/-- what an operation's predicate reads: itself, and what it waits for -/
def readsB (l : List Oper) (D : Nat → List Nat) : Bool := (List.range l.length).all fun j => (D j).all fun k => decide (k = j) || ancB l l.length j k

structure InvG (l : List Oper) (R : World → World → Prop) (Φ : Nat → (Nat → Value) → World → Prop) (a : Act) (w : World) (listed : Array Bool) (a' : Act) (W : World) : Prop where
  rel : R w W
  lsize : listed.size = l.length
  size : a'.tmps.size = a.tmps.size
  defers : a'.defers = a.defers
  old : ∀ d, (∀ (j : Nat) oj, l[j]? = some oj → oj.dst = some d → listed.getD j false = false) → a'.tmps.getD d undef = a.tmps.getD d undef
  new : ∀ j, j < l.length → listed.getD j false = true → Φ j (sv l a') W
  down : downC l listed

theorem sv_put_self {l : List Oper} {a : Act} {i : Nat} {o : Oper} {v : Value} (ho : l[i]? = some o) (hin : ∀ d ∈ l.filterMap (·.dst), d < a.tmps.size) (hd : o.dst.isSome = true) : sv l (a.put o.dst v) i = v := by
  obtain ⟨d, hd⟩ := Option.isSome_iff_exists.1 hd
  unfold sv
  rw [ho]
  simp only [Option.bind_some, hd]
  exact put_self (o := some d) rfl (hin d (List.mem_filterMap.2 ⟨o, List.mem_of_getElem? ho, hd⟩))
theorem sv_put_other {l : List Oper} {a : Act} {i j : Nat} {o : Oper} {v : Value} (hun : uniqB l = true) (ho : l[i]? = some o) (hji : j ≠ i) : sv l (a.put o.dst v) j = sv l a j := by
  unfold sv
  split
  · rfl
  · rename_i d hd
    obtain ⟨oj, hj, hdj⟩ := Option.bind_eq_some_iff.1 hd
    exact put_other (fun e => hji (uniqB_spec hun hj ho hdj e))

theorem wp_region_gen {P : Program} {id : Nat} {Q : Exit → Act → World → Prop} {a : Act} {w : World} {l : List Oper} (hm : P.follows .mixedOrders = true)
    (R : World → World → Prop) (hR0 : ∀ W : World, R W { W with drawn := W.drawn + 1 }) (hRt : ∀ {A B C}, R A B → R B C → R A C)
    (Φ : Nat → (Nat → Value) → World → Prop) (D : Nat → List Nat) (hst : ∀ j s s' W W', Φ j s W → (∀ k ∈ D j, s' k = s k) → R W W' → Φ j s' W')
    (hback : backB l = true) (hun : uniqB l = true) (hreads : readsB l D = true) (hin : ∀ d ∈ l.filterMap (·.dst), d < a.tmps.size)
    (hstep : ∀ (i : Nat) o, l[i]? = some o → ∀ a' W, AtG l R Φ a w i o a' W → GoesG P l R Φ i o a' W Q)
    (hend : ∀ a' W, R w W → a'.tmps.size = a.tmps.size → a'.defers = a.defers → (∀ d, d ∉ l.filterMap (·.dst) → a'.tmps.getD d undef = a.tmps.getD d undef) →
      (∀ j, j < l.length → Φ j (sv l a') W) → Q .normal a' W) :
    (Code.region id l.toArray true).wp P Q a w := by
  refine wp_region_any hm ?_
  have main : ∀ (fuel : Nat) (listed : Array Bool) (a' : Act) (W : World), listed.toList.count false = fuel → InvG l R Φ a w listed a' W → wpAny P .any l.toArray Q fuel listed a' W := by
    intro fuel
    induction fuel with
    | zero =>
      intro listed a' W hc hI
      have hall : ∀ i, i < l.length → listed.getD i false = true := by
        intro i hi
        have hi' : i < listed.size := by rw [hI.lsize]; exact hi
        cases hb : listed.getD i false with
        | true => rfl
        | false =>
          exfalso
          have : false ∈ listed.toList := by
            simp only [Array.getD_eq_getD_getElem?, Array.getElem?_eq_getElem hi', Option.getD_some] at hb
            rw [← hb]; simp
          have := List.count_pos_iff.2 this
          omega
      have hr : Region.ready .any l.toArray listed = [] := by
        apply List.eq_nil_iff_forall_not_mem.2
        intro i hi
        rw [mem_ready] at hi
        obtain ⟨h1, o, ho, _⟩ := hi
        have hi' : i < l.length := by
          have := (Array.getElem?_eq_some_iff.1 ho).1
          simpa using this
        have h2 := hall i hi'
        have hi2 : i < listed.size := by rw [hI.lsize]; exact hi'
        simp only [Array.getD_eq_getD_getElem?, Array.getElem?_eq_getElem hi2, Option.getD_some] at h1 h2
        rw [h1] at h2; cases h2
      exact ⟨hr, hend a' W hI.rel hI.size hI.defers (fun d hd => hI.old d (fun j oj hj hd' => absurd (List.mem_filterMap.2 ⟨oj, List.mem_of_getElem? hj, hd'⟩) hd)) (fun j hj => hI.new j hj (hall j hj))⟩
    | succ fuel ih =>
      intro listed a' W hc hI
      refine ⟨fun h0 => ?_, fun i hi => ?_⟩
      · have hall := all_listed hback hI.lsize h0
        exact hend a' W hI.rel hI.size hI.defers (fun d hd => hI.old d (fun j oj hj hd' => absurd (List.mem_filterMap.2 ⟨oj, List.mem_of_getElem? hj, hd'⟩) hd)) (fun j hj => hI.new j hj (hall j hj))
      · obtain ⟨hl0, o, ho, hwait⟩ := mem_ready.1 hi
        have ho' : l[i]? = some o := by simpa using ho
        have hil : i < l.length := (List.getElem?_eq_some_iff.1 ho').1
        have hil' : i < listed.size := by rw [hI.lsize]; exact hil
        have hlf : listed.getD i false = false := by
          simp only [Array.getD_eq_getD_getElem?, Array.getElem?_eq_getElem hil', Option.getD_some] at hl0 ⊢
          exact hl0
        have hanc : ∀ n k, ancB l n i k = true → listed.getD k false = true := by
          intro n k hk
          cases n with
          | zero => simp [ancB] at hk
          | succ n =>
            unfold ancB at hk
            rw [ho'] at hk
            obtain ⟨e, he, hh⟩ := List.any_eq_true.1 hk
            simp only [Bool.and_eq_true, Bool.or_eq_true, decide_eq_true_eq] at hh
            have h1 := hwait e (by simpa using he) hh.1
            rcases hh.2 with h2 | h2
            · rw [← h2]; exact h1
            · exact hI.down.anc n e.on k h1 h2
        have hAt : AtG l R Φ a w i o a' W := ⟨hI.rel, hI.size, hI.defers,
          fun d hd => hI.old d (fun j oj hj hdj => by
            have hji := hd j oj hj hdj
            cases hlj : listed.getD j false with
            | false => rfl
            | true =>
              have := hI.down.anc _ j i hlj hji
              rw [hlf] at this; cases this),
          fun j hj ha => hI.new j hj (hanc _ j ha)⟩
        have hG := hstep i o ho' a' W hAt
        have hnext : ∀ v W2, R W W2 → (∀ s : Nat → Value, (o.dst.isSome = true → s i = v) → (∀ k, k ≠ i → ancB l l.length i k = true → s k = sv l a' k) → Φ i s W2) → wpAny P .any l.toArray Q fuel (listed.setIfInBounds i true) (a'.put o.dst v) W2 := by
          intro v W2 hR hv
          have hin' : ∀ d ∈ l.filterMap (·.dst), d < a'.tmps.size := fun d hd => by rw [hI.size]; exact hin d hd
          refine ih _ _ _ ?_ ?_
          · have := count_set listed.toList i (by simp [hil']; simpa [Array.getD_eq_getD_getElem?, hil'] using hlf)
            rw [Array.toList_setIfInBounds]; omega
          · have hset : ∀ j, j ≠ i → (listed.setIfInBounds i true).getD j false = listed.getD j false := fun j hj => getD_set_ne false (Ne.symm hj)
            refine ⟨hRt hI.rel hR, by simpa using hI.lsize, by rw [put_size]; exact hI.size, by rw [put_defers]; exact hI.defers, ?_, ?_, ?_⟩
            · intro d hd
              have hne : o.dst ≠ some d := fun e => by
                have := hd i o ho' e
                simp [Array.getD_eq_getD_getElem?, hil'] at this
              rw [put_other hne]
              refine hI.old d (fun j oj hj hdj => ?_)
              by_cases hji : j = i
              · subst hji; exact hlf
              · have := hd j oj hj hdj
                rwa [hset j hji] at this
            · intro j hj hlj
              by_cases hji : j = i
              · subst hji
                exact hv _ (fun hd => sv_put_self ho' hin' hd) (fun k hk _ => sv_put_other hun ho' hk)
              · rw [hset j hji] at hlj
                refine hst j _ _ _ _ (hI.new j hj hlj) (fun k hk => sv_put_other hun ho' ?_) hR
                rintro rfl
                have h1 := List.all_eq_true.1 (List.all_eq_true.1 hreads j (List.mem_range.2 hj)) k hk
                simp only [Bool.or_eq_true, decide_eq_true_eq] at h1
                rcases h1 with h1 | h1
                · exact hji h1.symm
                · have := hI.down.anc _ j k hlj h1
                  rw [hlf] at this; cases this
            · intro j oj hj hlj e he hb
              by_cases hji : j = i
              · subst hji
                rw [ho'] at hj; cases hj
                exact getD_set_true (hwait e he hb)
              · rw [hset j hji] at hlj
                exact getD_set_true (hI.down j oj hj hlj e he hb)
        unfold wpOp
        rw [show l.toArray[i]? = some o by simpa using ho']
        unfold GoesG at hG
        by_cases hwant : Region.wanted o (yielded l.toArray a'.tmps) = true
        · rw [if_pos hwant] at hG
          simp only [hwant, if_true]
          exact .inl (Oper.wp_mono (fun a2 W2 ⟨v, e, hR, hv⟩ => by rw [e]; exact hnext v W2 hR hv) hG)
        · rw [if_neg hwant] at hG
          simp only [hwant]
          exact hnext undef W hG.1 hG.2
  have h0 := main l.length (Array.replicate l.length false) a { w with drawn := w.drawn + 1 } (by simp)
    ⟨hR0 w, by simp, rfl, rfl, fun _ _ => rfl, (fun j _ h => by rw [getD_false] at h; cases h), (fun j oj _ h => by rw [getD_false] at h; cases h)⟩
  simpa using h0

theorem putAll_val {l : List Oper} {a : Act} {vs : List Value} (hun : uniqB l = true) (hlen : vs.length = l.length) (hin : ∀ d ∈ l.filterMap (·.dst), d < a.tmps.size) (j : Nat) (o : Oper) (hj : l[j]? = some o) (hd : o.dst.isSome = true) : sv l (putAll l vs a) j = vs.getD j undef := by
  obtain ⟨d, hd⟩ := Option.isSome_iff_exists.1 hd
  unfold sv
  rw [hj]
  simp only [Option.bind_some, hd]
  exact putAll_self l vs a j o d hlen hj hd (fun i p hp e => uniqB_spec hun hp hj e hd) (hin d (List.mem_filterMap.2 ⟨o, List.mem_of_getElem? hj, hd⟩))

/-- the theorem, its end with the values named -/
theorem wp_region_g {P : Program} {id : Nat} {Q : Exit → Act → World → Prop} {a : Act} {w : World} {l : List Oper} (hm : P.follows .mixedOrders = true)
    (R : World → World → Prop) (hR0 : ∀ W : World, R W { W with drawn := W.drawn + 1 }) (hRt : ∀ {A B C}, R A B → R B C → R A C)
    (Φ : Nat → (Nat → Value) → World → Prop) (D : Nat → List Nat) (hst : ∀ j s s' W W', Φ j s W → (∀ k ∈ D j, s' k = s k) → R W W' → Φ j s' W')
    (hback : backB l = true) (hun : uniqB l = true) (hreads : readsB l D = true) (N : Nat) (hN : a.tmps.size = N) (hinB : ((l.filterMap (·.dst)).all fun d => decide (d < N)) = true)
    (hstep : ∀ (i : Nat) o, l[i]? = some o → ∀ a' W, AtG l R Φ a w i o a' W → GoesG P l R Φ i o a' W Q)
    (hend : ∀ (vs : List Value) W, vs.length = l.length → R w W → (∀ j, j < l.length → Φ j (fun k => vs.getD k undef) W) → Q .normal (putAll l vs a) W) :
    (Code.region id l.toArray true).wp P Q a w := by
  have hin : ∀ d ∈ l.filterMap (·.dst), d < a.tmps.size := fun d hd => by rw [hN]; exact of_decide_eq_true (List.all_eq_true.1 hinB d hd)
  refine wp_region_gen hm R hR0 hRt Φ D hst hback hun hreads hin hstep ?_
  intro a' W hE hs hd hold hnew
  have e : a' = putAll l (l.map fun o => match o.dst with | none => undef | some d => a'.tmps.getD d undef) a := by
    refine act_eq (by rw [putAll_size]; exact hs) (by rw [putAll_defers]; exact hd) ?_
    intro d hlt
    by_cases hm : d ∈ l.filterMap (·.dst)
    · obtain ⟨o, ho, hod⟩ := List.mem_filterMap.1 hm
      obtain ⟨j, hj⟩ := List.getElem?_of_mem ho
      rw [putAll_self l _ a j o d (by simp) hj hod (fun i p hp e => uniqB_spec hun hp hj e hod) (by rw [← hs]; exact hlt)]
      rw [List.getD_eq_getElem?_getD, List.getElem?_map, hj]
      simp [hod]
    · rw [putAll_other l _ a d (fun o ho e => hm (List.mem_filterMap.2 ⟨o, ho, e⟩))]
      exact hold d hm
  have hsv : (fun k => (l.map fun o => match o.dst with | none => undef | some d => a'.tmps.getD d undef).getD k undef) = sv l a' := by
    funext k
    unfold sv
    rw [List.getD_eq_getElem?_getD, List.getElem?_map]
    cases hk : l[k]? with
    | none => rfl
    | some o => cases hod : o.dst <;> simp [hod]
  rw [e]
  refine hend _ W (by simp) hE (fun j hj => ?_)
  rw [hsv]
  exact hnew j hj

/-- an operation that yields a value -/
theorem GoesG.value {P : Program} {l : List Oper} {R : World → World → Prop} {Φ : Nat → (Nat → Value) → World → Prop} {i : Nat} {o : Oper} {a' : Act} {W W' : World} {Q : Exit → Act → World → Prop} (v : Value) (hg : o.guard = none) (hrun : (execOp a'.eval o).run P W = .ok (.value v) W') (hR : R W W')
    (hΦ : ∀ s : Nat → Value, (o.dst.isSome = true → s i = v) → (∀ k, k ≠ i → ancB l l.length i k = true → s k = sv l a' k) → Φ i s W') : GoesG P l R Φ i o a' W Q := by
  unfold GoesG
  rw [if_pos (by simp [Region.wanted, hg])]
  unfold Oper.wp
  rw [hrun]
  exact ⟨v, rfl, hR, hΦ⟩
theorem GoesG.skip {P : Program} {l : List Oper} {R : World → World → Prop} {Φ : Nat → (Nat → Value) → World → Prop} {i : Nat} {o : Oper} {a' : Act} {W W' : World} {Q : Exit → Act → World → Prop} (hg : o.guard = none) (hrun : (execOp a'.eval o).run P W = .ok .skip W') (hR : R W W')
    (hΦ : ∀ s : Nat → Value, (o.dst.isSome = true → s i = undef) → (∀ k, k ≠ i → ancB l l.length i k = true → s k = sv l a' k) → Φ i s W') : GoesG P l R Φ i o a' W Q := by
  unfold GoesG
  rw [if_pos (by simp [Region.wanted, hg])]
  unfold Oper.wp
  rw [hrun]
  exact ⟨undef, rfl, hR, hΦ⟩
theorem GoesG.move {P : Program} {l : List Oper} {R : World → World → Prop} {Φ : Nat → (Nat → Value) → World → Prop} {i : Nat} {o : Oper} {a' : Act} {W : World} {Q : Exit → Act → World → Prop} (x : Operand) (hg : o.guard = none) (hop : o.op = .move x) (hR : R W W)
    (hΦ : ∀ s : Nat → Value, (o.dst.isSome = true → s i = a'.eval x) → (∀ k, k ≠ i → ancB l l.length i k = true → s k = sv l a' k) → Φ i s W) : GoesG P l R Φ i o a' W Q :=
  GoesG.value _ hg (BigFrame.run_move x hop _) hR hΦ
theorem GoesG.assign {P : Program} {l : List Oper} {R : World → World → Prop} {Φ : Nat → (Nat → Value) → World → Prop} {i : Nat} {o : Oper} {a' : Act} {W : World} {Q : Exit → Act → World → Prop} (x : Operand) (hg : o.guard = none) (hop : o.op = .assign x) (hR : R W W)
    (hΦ : ∀ s : Nat → Value, (o.dst.isSome = true → s i = a'.eval x) → (∀ k, k ≠ i → ancB l l.length i k = true → s k = sv l a' k) → Φ i s W) : GoesG P l R Φ i o a' W Q :=
  GoesG.value _ hg (BigFrame.run_assign x hop _) hR hΦ
theorem GoesG.call {P : Program} {l : List Oper} {R : World → World → Prop} {Φ : Nat → (Nat → Value) → World → Prop} {i : Nat} {o : Oper} {a' : Act} {W : World} {Q : Exit → Act → World → Prop} (f : FuncId) (args : Array Value) (hg : o.guard = none) (hrun : (execOp a'.eval o).run P W = .ok (.enter f args) W)
    (hc : Calls P f args W fun e W' => ∃ v, e = .returned v ∧ R W W' ∧ ∀ s : Nat → Value, (o.dst.isSome = true → s i = v) → (∀ k, k ≠ i → ancB l l.length i k = true → s k = sv l a' k) → Φ i s W') : GoesG P l R Φ i o a' W Q := by
  unfold GoesG
  rw [if_pos (by simp [Region.wanted, hg])]
  unfold Oper.wp
  rw [hrun]
  exact hc.mono fun e W' ⟨v, he, hR, hΦ⟩ => by subst he; exact ⟨v, rfl, hR, hΦ⟩

/-- blocks from B on of cells of type T may turn, to such cells as F holds of; the others stay; memory grows -/
structure Grow (B : Nat) (T : TypeId) (F : Array Value → Prop) (W W' : World) : Prop where
  os : W'.os = W.os
  tape : W'.tape = W.tape
  output : W'.output = W.output
  size : W.heap.size ≤ W'.heap.size
  block : ∀ j, j < W.heap.size → W'.heap[j]? = W.heap[j]? ∨ (B ≤ j ∧ ∃ c c' f, W.heap[j]? = some (.cells c T f) ∧ W'.heap[j]? = some (.cells c' T f) ∧ c'.size = c.size ∧ F c')
theorem Grow.refl (B : Nat) (T : TypeId) (F : Array Value → Prop) (W : World) : Grow B T F W W := ⟨rfl, rfl, rfl, Nat.le_refl _, fun _ _ => .inl rfl⟩
theorem Grow.drawn (B : Nat) (T : TypeId) (F : Array Value → Prop) (W : World) : Grow B T F W { W with drawn := W.drawn + 1 } := ⟨rfl, rfl, rfl, Nat.le_refl _, fun _ _ => .inl rfl⟩
theorem Grow.trans {B : Nat} {T : TypeId} {F : Array Value → Prop} {a b c : World} (h : Grow B T F a b) (g : Grow B T F b c) : Grow B T F a c := by
  refine ⟨g.os.trans h.os, g.tape.trans h.tape, g.output.trans h.output, Nat.le_trans h.size g.size, fun j hj => ?_⟩
  have hj' : j < b.heap.size := Nat.lt_of_lt_of_le hj h.size
  rcases h.block j hj with h1 | ⟨hB, x, y, f, h1, h2, h3, h4⟩
  · rcases g.block j hj' with g1 | ⟨hB, x', y', f', g1, g2, g3, g4⟩
    · exact .inl (g1.trans h1)
    · exact .inr ⟨hB, x', y', f', h1 ▸ g1, g2, g3, g4⟩
  · rcases g.block j hj' with g1 | ⟨hB, x', y', f', g1, g2, g3, g4⟩
    · exact .inr ⟨hB, x, y, f, h1, g1.trans h2, h3, h4⟩
    · rw [h2] at g1
      cases g1
      exact .inr ⟨hB, x, y', f, h1, g2, g3.trans h3, g4⟩
theorem Grow.of_ext {B : Nat} {T : TypeId} {F : Array Value → Prop} {W W' : World} (h : Ext W W') : Grow B T F W W' := ⟨h.os, h.tape, h.output, h.size, fun j hj => .inl (h.below.block j hj)⟩
theorem Grow.ext {T : TypeId} {F : Array Value → Prop} {w W : World} (h : Grow w.heap.size T F w W) : Ext w W :=
  ⟨h.os, h.tape, h.output, h.size, fun j hj => by
    rcases h.block j hj with h1 | ⟨hB, _⟩
    · exact h1
    · omega⟩
theorem Grow.row {B : Nat} {T : TypeId} {F : Array Value → Prop} {W : World} {g : Nat} {c c' : Array Value} {f : Nat × Nat} (h : W.heap[g]? = some (.cells c T f)) (hB : B ≤ g) (hs : c'.size = c.size) (hF : F c') : Grow B T F W (W.setRow g c') := by
  refine ⟨rfl, rfl, rfl, by simp [World.setRow], fun j hj => ?_⟩
  by_cases e : j = g
  · subst e
    exact .inr ⟨hB, c, c', f, h, setRow_heap W j c c' T f h, hs, hF⟩
  · refine .inl ?_
    simp only [World.setRow, Array.getElem?_modify, if_neg (Ne.symm e)]
/-- a block that is no cells of type T stays -/
theorem Grow.keep {B : Nat} {T : TypeId} {F : Array Value → Prop} {W W' : World} (h : Grow B T F W W') {j : Nat} {o : Obj} (ho : W.heap[j]? = some o) (hn : ∀ c f, o ≠ .cells c T f) : W'.heap[j]? = some o := by
  rcases h.block j (lt_of_block ho) with h1 | ⟨_, x, y, f, h1, _⟩
  · rw [h1]; exact ho
  · rw [ho] at h1; cases h1; exact absurd rfl (hn _ _)
/-- a block below B stays -/
theorem Grow.low {B : Nat} {T : TypeId} {F : Array Value → Prop} {W W' : World} (h : Grow B T F W W') {j : Nat} (hj : j < B) (hw : j < W.heap.size) : W'.heap[j]? = W.heap[j]? := by
  rcases h.block j hw with h1 | ⟨hB, _⟩
  · exact h1
  · omega
/-- a block of cells of type T stays one, of the same size -/
theorem Grow.turn {B : Nat} {T : TypeId} {F : Array Value → Prop} {W W' : World} (h : Grow B T F W W') {j : Nat} {c : Array Value} {f : Nat × Nat} (ho : W.heap[j]? = some (.cells c T f)) : ∃ c', W'.heap[j]? = some (.cells c' T f) ∧ c'.size = c.size := by
  rcases h.block j (lt_of_block ho) with h1 | ⟨_, x, y, f', h1, h2, h3, _⟩
  · exact ⟨c, h1.trans ho, rfl⟩
  · rw [ho] at h1; cases h1; exact ⟨y, h2, h3⟩
/-- a block of which F holds stays one -/
theorem Grow.done {B : Nat} {T : TypeId} {F : Array Value → Prop} {W W' : World} (h : Grow B T F W W') {j : Nat} {c : Array Value} {f : Nat × Nat} (ho : W.heap[j]? = some (.cells c T f)) (hF : F c) : ∃ c', W'.heap[j]? = some (.cells c' T f) ∧ F c' := by
  rcases h.block j (lt_of_block ho) with h1 | ⟨_, x, y, f', h1, h2, _, h4⟩
  · exact ⟨c, h1.trans ho, hF⟩
  · rw [ho] at h1; cases h1; exact ⟨y, h2, h4⟩

/-- a store of a whole row -/
theorem GoesG.store {P : Program} {l : List Oper} {R : World → World → Prop} {Φ : Nat → (Nat → Value) → World → Prop} {i : Nat} {o : Oper} {a' : Act} {W : World} {Q : Exit → Act → World → Prop} (hg : o.guard = none) (ty : TypeId) (x y : Operand) (ho : o.op = .store ty x y)
    (g : Nat) (cells : Array Value) (hx : a'.eval x = .pointer (some ⟨g, 0, none⟩)) (hy : a'.eval y = .agg cells) (t : TypeId) (old : Array Value) (hh : W.heap[g]? = some (.cells old t (0, 0))) (hi : (P.info? ty).map (·.size) = some cells.size)
    (hold : old.size = cells.size) (h1 : cells.all (·.oneCell') = true) (hd : o.dst = none) (hR : R W (W.setRow g cells))
    (hΦ : ∀ s : Nat → Value, (∀ k, k ≠ i → ancB l l.length i k = true → s k = sv l a' k) → Φ i s (W.setRow g cells)) : GoesG P l R Φ i o a' W Q := by
  unfold GoesG
  rw [if_pos (by simp [Region.wanted, hg])]
  exact wp_store_row ty x y ho g cells hx hy t old hh hi hold h1 ⟨undef, rfl, hR, fun s _ h2 => hΦ s h2⟩

end Go.Proofs.YtfkjokbhnblndaaGreatDoor
