/- As Rg; the operations that make memory yield addresses that are all different. -/
import Derived.Test.YtfkjokbhnblndaaGreatDoorRg
namespace Go.Proofs.YtfkjokbhnblndaaGreatDoor
open Go.RowKit
set_option linter.unusedVariables false

structure InvP (al : Nat → Bool) (l : List Oper) (R : World → World → Prop) (Φ : Nat → (Nat → Value) → World → Prop) (a : Act) (w : World) (listed : Array Bool) (a' : Act) (W : World) : Prop where
  g : InvG l R Φ a w listed a' W
  pair : ∀ i j, i < l.length → j < l.length → i ≠ j → al i = true → al j = true → listed.getD i false = true → listed.getD j false = true → sv l a' i ≠ sv l a' j
/-- one operation; what the allocating ones yield is new -/
def GoesP (al : Nat → Bool) (P : Program) (l : List Oper) (R : World → World → Prop) (Φ : Nat → (Nat → Value) → World → Prop) (i : Nat) (o : Oper) (a' : Act) (W : World) (Q : Exit → Act → World → Prop) : Prop :=
  if Region.wanted o (yielded l.toArray a'.tmps) then
    o.wp P a' W (fun a2 W2 => ∃ v, a2 = a'.put o.dst v ∧ R W W2 ∧ (∀ s : Nat → Value, (o.dst.isSome = true → s i = v) → (∀ k, k ≠ i → ancB l l.length i k = true → s k = sv l a' k) → Φ i s W2) ∧ (al i = true → o.dst.isSome = true ∧ ∀ j s, al j = true → Φ j s W → v ≠ s j)) Q
  else R W W ∧ (∀ s : Nat → Value, (o.dst.isSome = true → s i = undef) → (∀ k, k ≠ i → ancB l l.length i k = true → s k = sv l a' k) → Φ i s W) ∧ al i = false
theorem GoesG.toP {al : Nat → Bool} {P : Program} {l : List Oper} {R : World → World → Prop} {Φ : Nat → (Nat → Value) → World → Prop} {i : Nat} {o : Oper} {a' : Act} {W : World} {Q : Exit → Act → World → Prop} (hal : al i = false) (h : GoesG P l R Φ i o a' W Q) : GoesP al P l R Φ i o a' W Q := by
  unfold GoesG at h
  unfold GoesP
  split
  · rename_i hw
    rw [if_pos hw] at h
    exact Oper.wp_mono (fun a2 W2 ⟨v, e, hR, hv⟩ => ⟨v, e, hR, hv, fun e => by rw [hal] at e; cases e⟩) h
  · rename_i hw
    rw [if_neg hw] at h
    exact ⟨h.1, h.2, hal⟩
theorem wp_region_genp {P : Program} {id : Nat} {Q : Exit → Act → World → Prop} {a : Act} {w : World} {l : List Oper} (hm : P.follows .mixedOrders = true) (al : Nat → Bool)
    (R : World → World → Prop) (hR0 : ∀ W : World, R W { W with drawn := W.drawn + 1 }) (hRt : ∀ {A B C}, R A B → R B C → R A C)
    (Φ : Nat → (Nat → Value) → World → Prop) (D : Nat → List Nat) (hst : ∀ j s s' W W', Φ j s W → (∀ k ∈ D j, s' k = s k) → R W W' → Φ j s' W')
    (hback : backB l = true) (hun : uniqB l = true) (hreads : readsB l D = true) (hin : ∀ d ∈ l.filterMap (·.dst), d < a.tmps.size)
    (hstep : ∀ (i : Nat) o, l[i]? = some o → ∀ a' W, AtG l R Φ a w i o a' W → GoesP al P l R Φ i o a' W Q)
    (hend : ∀ a' W, R w W → a'.tmps.size = a.tmps.size → a'.defers = a.defers → (∀ d, d ∉ l.filterMap (·.dst) → a'.tmps.getD d undef = a.tmps.getD d undef) →
      (∀ j, j < l.length → Φ j (sv l a') W) → (∀ i j, i < l.length → j < l.length → i ≠ j → al i = true → al j = true → sv l a' i ≠ sv l a' j) → Q .normal a' W) :
    (Code.region id l.toArray true).wp P Q a w := by
  refine wp_region_any hm ?_
  have main : ∀ (fuel : Nat) (listed : Array Bool) (a' : Act) (W : World), listed.toList.count false = fuel → InvP al l R Φ a w listed a' W → wpAny P .any l.toArray Q fuel listed a' W := by
    intro fuel
    induction fuel with
    | zero =>
      intro listed a' W hc hIP
      have hI := hIP.g
      have hall : ∀ i, i < l.length → listed.getD i false = true := by
        intro i hi
        have hi' : i < listed.size := by rw [hI.lsize]; exact hi
        cases hb : listed.getD i false with
        | true => rfl
        | false =>
          exfalso
          have : false ∈ listed.toList := by
            simp only [Array.getD_eq_getD_getElem?, Array.getElem?_eq_getElem hi', Option.getD_some] at hb
            rw [← hb]; simp
          have := List.count_pos_iff.2 this
          omega
      have hr : Region.ready .any l.toArray listed = [] := by
        apply List.eq_nil_iff_forall_not_mem.2
        intro i hi
        rw [mem_ready] at hi
        obtain ⟨h1, o, ho, _⟩ := hi
        have hi' : i < l.length := by
          have := (Array.getElem?_eq_some_iff.1 ho).1
          simpa using this
        have h2 := hall i hi'
        have hi2 : i < listed.size := by rw [hI.lsize]; exact hi'
        simp only [Array.getD_eq_getD_getElem?, Array.getElem?_eq_getElem hi2, Option.getD_some] at h1 h2
        rw [h1] at h2; cases h2
      exact ⟨hr, hend a' W hI.rel hI.size hI.defers (fun d hd => hI.old d (fun j oj hj hd' => absurd (List.mem_filterMap.2 ⟨oj, List.mem_of_getElem? hj, hd'⟩) hd)) (fun j hj => hI.new j hj (hall j hj)) (fun i j hi hj hne h1 h2 => hIP.pair i j hi hj hne h1 h2 (hall i hi) (hall j hj))⟩
    | succ fuel ih =>
      intro listed a' W hc hIP
      have hI := hIP.g
      refine ⟨fun h0 => ?_, fun i hi => ?_⟩
      · have hall := all_listed hback hI.lsize h0
        exact hend a' W hI.rel hI.size hI.defers (fun d hd => hI.old d (fun j oj hj hd' => absurd (List.mem_filterMap.2 ⟨oj, List.mem_of_getElem? hj, hd'⟩) hd)) (fun j hj => hI.new j hj (hall j hj)) (fun i j hi hj hne h1 h2 => hIP.pair i j hi hj hne h1 h2 (hall i hi) (hall j hj))
      · obtain ⟨hl0, o, ho, hwait⟩ := mem_ready.1 hi
        have ho' : l[i]? = some o := by simpa using ho
        have hil : i < l.length := (List.getElem?_eq_some_iff.1 ho').1
        have hil' : i < listed.size := by rw [hI.lsize]; exact hil
        have hlf : listed.getD i false = false := by
          simp only [Array.getD_eq_getD_getElem?, Array.getElem?_eq_getElem hil', Option.getD_some] at hl0 ⊢
          exact hl0
        have hanc : ∀ n k, ancB l n i k = true → listed.getD k false = true := by
          intro n k hk
          cases n with
          | zero => simp [ancB] at hk
          | succ n =>
            unfold ancB at hk
            rw [ho'] at hk
            obtain ⟨e, he, hh⟩ := List.any_eq_true.1 hk
            simp only [Bool.and_eq_true, Bool.or_eq_true, decide_eq_true_eq] at hh
            have h1 := hwait e (by simpa using he) hh.1
            rcases hh.2 with h2 | h2
            · rw [← h2]; exact h1
            · exact hI.down.anc n e.on k h1 h2
        have hAt : AtG l R Φ a w i o a' W := ⟨hI.rel, hI.size, hI.defers,
          fun d hd => hI.old d (fun j oj hj hdj => by
            have hji := hd j oj hj hdj
            cases hlj : listed.getD j false with
            | false => rfl
            | true =>
              have := hI.down.anc _ j i hlj hji
              rw [hlf] at this; cases this),
          fun j hj ha => hI.new j hj (hanc _ j ha)⟩
        have hG := hstep i o ho' a' W hAt
        have hnext : ∀ v W2, R W W2 → (∀ s : Nat → Value, (o.dst.isSome = true → s i = v) → (∀ k, k ≠ i → ancB l l.length i k = true → s k = sv l a' k) → Φ i s W2) → (al i = true → o.dst.isSome = true ∧ ∀ j s, al j = true → Φ j s W → v ≠ s j) → wpAny P .any l.toArray Q fuel (listed.setIfInBounds i true) (a'.put o.dst v) W2 := by
          intro v W2 hR hv hfr
          have hin' : ∀ d ∈ l.filterMap (·.dst), d < a'.tmps.size := fun d hd => by rw [hI.size]; exact hin d hd
          refine ih _ _ _ ?_ ?_
          · have := count_set listed.toList i (by simp [hil']; simpa [Array.getD_eq_getD_getElem?, hil'] using hlf)
            rw [Array.toList_setIfInBounds]; omega
          · have hset : ∀ j, j ≠ i → (listed.setIfInBounds i true).getD j false = listed.getD j false := fun j hj => getD_set_ne false (Ne.symm hj)
            refine ⟨⟨hRt hI.rel hR, by simpa using hI.lsize, by rw [put_size]; exact hI.size, by rw [put_defers]; exact hI.defers, ?_, ?_, ?_⟩, ?_⟩
            · intro d hd
              have hne : o.dst ≠ some d := fun e => by
                have := hd i o ho' e
                simp [Array.getD_eq_getD_getElem?, hil'] at this
              rw [put_other hne]
              refine hI.old d (fun j oj hj hdj => ?_)
              by_cases hji : j = i
              · subst hji; exact hlf
              · have := hd j oj hj hdj
                rwa [hset j hji] at this
            · intro j hj hlj
              by_cases hji : j = i
              · subst hji
                exact hv _ (fun hd => sv_put_self ho' hin' hd) (fun k hk _ => sv_put_other hun ho' hk)
              · rw [hset j hji] at hlj
                refine hst j _ _ _ _ (hI.new j hj hlj) (fun k hk => sv_put_other hun ho' ?_) hR
                rintro rfl
                have h1 := List.all_eq_true.1 (List.all_eq_true.1 hreads j (List.mem_range.2 hj)) k hk
                simp only [Bool.or_eq_true, decide_eq_true_eq] at h1
                rcases h1 with h1 | h1
                · exact hji h1.symm
                · have := hI.down.anc _ j k hlj h1
                  rw [hlf] at this; cases this
            · intro j oj hj hlj e he hb
              by_cases hji : j = i
              · subst hji
                rw [ho'] at hj; cases hj
                exact getD_set_true (hwait e he hb)
              · rw [hset j hji] at hlj
                exact getD_set_true (hI.down j oj hj hlj e he hb)
            · have key : ∀ j, j < l.length → j ≠ i → al i = true → al j = true → (listed.setIfInBounds i true).getD j false = true → sv l (a'.put o.dst v) i ≠ sv l (a'.put o.dst v) j := by
                intro j hj hji h1 h2 hlj
                rw [hset j hji] at hlj
                obtain ⟨hd, hf⟩ := hfr h1
                rw [sv_put_self ho' hin' hd, sv_put_other hun ho' hji]
                exact hf j (sv l a') h2 (hI.new j hj hlj)
              intro i1 j1 hi1 hj1 hne h1 h2 hl1 hl2
              by_cases e1 : i1 = i
              · subst e1
                exact key j1 hj1 (Ne.symm hne) h1 h2 hl2
              · by_cases e2 : j1 = i
                · subst e2
                  exact (key i1 hi1 e1 h2 h1 hl1).symm
                · rw [sv_put_other hun ho' e1, sv_put_other hun ho' e2]
                  rw [hset i1 e1] at hl1
                  rw [hset j1 e2] at hl2
                  exact hIP.pair i1 j1 hi1 hj1 hne h1 h2 hl1 hl2
        unfold wpOp
        rw [show l.toArray[i]? = some o by simpa using ho']
        unfold GoesP at hG
        by_cases hwant : Region.wanted o (yielded l.toArray a'.tmps) = true
        · rw [if_pos hwant] at hG
          simp only [hwant, if_true]
          exact .inl (Oper.wp_mono (fun a2 W2 ⟨v, e, hR, hv, hf⟩ => by rw [e]; exact hnext v W2 hR hv hf) hG)
        · rw [if_neg hwant] at hG
          simp only [hwant]
          exact hnext undef W hG.1 hG.2.1 (fun e => by rw [hG.2.2] at e; cases e)
  have h0 := main l.length (Array.replicate l.length false) a { w with drawn := w.drawn + 1 } (by simp)
    ⟨⟨hR0 w, by simp, rfl, rfl, fun _ _ => rfl, (fun j _ h => by rw [getD_false] at h; cases h), (fun j oj _ h => by rw [getD_false] at h; cases h)⟩, (fun i j _ _ _ _ _ h => by rw [getD_false] at h; cases h)⟩
  simpa using h0

/-- the theorem, its end with the values named -/
theorem wp_region_gp {P : Program} {id : Nat} {Q : Exit → Act → World → Prop} {a : Act} {w : World} {l : List Oper} (hm : P.follows .mixedOrders = true) (al : Nat → Bool)
    (R : World → World → Prop) (hR0 : ∀ W : World, R W { W with drawn := W.drawn + 1 }) (hRt : ∀ {A B C}, R A B → R B C → R A C)
    (Φ : Nat → (Nat → Value) → World → Prop) (D : Nat → List Nat) (hst : ∀ j s s' W W', Φ j s W → (∀ k ∈ D j, s' k = s k) → R W W' → Φ j s' W')
    (hback : backB l = true) (hun : uniqB l = true) (hreads : readsB l D = true) (N : Nat) (hN : a.tmps.size = N) (hinB : ((l.filterMap (·.dst)).all fun d => decide (d < N)) = true)
    (hstep : ∀ (i : Nat) o, l[i]? = some o → ∀ a' W, AtG l R Φ a w i o a' W → GoesP al P l R Φ i o a' W Q)
    (hend : ∀ (vs : List Value) W, vs.length = l.length → R w W → (∀ j, j < l.length → Φ j (fun k => vs.getD k undef) W) → (∀ i j, i < l.length → j < l.length → i ≠ j → al i = true → al j = true → vs.getD i undef ≠ vs.getD j undef) → Q .normal (putAll l vs a) W) :
    (Code.region id l.toArray true).wp P Q a w := by
  have hin : ∀ d ∈ l.filterMap (·.dst), d < a.tmps.size := fun d hd => by rw [hN]; exact of_decide_eq_true (List.all_eq_true.1 hinB d hd)
  refine wp_region_genp hm al R hR0 hRt Φ D hst hback hun hreads hin hstep ?_
  intro a' W hE hs hd hold hnew hpair
  have e : a' = putAll l (l.map fun o => match o.dst with | none => undef | some d => a'.tmps.getD d undef) a := by
    refine act_eq (by rw [putAll_size]; exact hs) (by rw [putAll_defers]; exact hd) ?_
    intro d hlt
    by_cases hm : d ∈ l.filterMap (·.dst)
    · obtain ⟨o, ho, hod⟩ := List.mem_filterMap.1 hm
      obtain ⟨j, hj⟩ := List.getElem?_of_mem ho
      rw [putAll_self l _ a j o d (by simp) hj hod (fun i p hp e => uniqB_spec hun hp hj e hod) (by rw [← hs]; exact hlt)]
      rw [List.getD_eq_getElem?_getD, List.getElem?_map, hj]
      simp [hod]
    · rw [putAll_other l _ a d (fun o ho e => hm (List.mem_filterMap.2 ⟨o, ho, e⟩))]
      exact hold d hm
  have hsv : (fun k => (l.map fun o => match o.dst with | none => undef | some d => a'.tmps.getD d undef).getD k undef) = sv l a' := by
    funext k
    unfold sv
    rw [List.getD_eq_getElem?_getD, List.getElem?_map]
    cases hk : l[k]? with
    | none => rfl
    | some o => cases hod : o.dst <;> simp [hod]
  rw [e]
  refine hend _ W (by simp) hE (fun j hj => ?_) (fun i j hi hj hne h1 h2 => ?_)
  · rw [hsv]
    exact hnew j hj
  · have e1 := congrFun hsv i
    have e2 := congrFun hsv j
    rw [e1, e2]
    exact hpair i j hi hj hne h1 h2

/-- an allocation -/
theorem GoesP.alloc {al : Nat → Bool} {P : Program} {l : List Oper} {R : World → World → Prop} {Φ : Nat → (Nat → Value) → World → Prop} {i : Nat} {o : Oper} {a' : Act} {W W' : World} {Q : Exit → Act → World → Prop} (v : Value) (hg : o.guard = none) (hd : o.dst.isSome = true) (hrun : (execOp a'.eval o).run P W = .ok (.value v) W') (hR : R W W')
    (hΦ : ∀ s : Nat → Value, (o.dst.isSome = true → s i = v) → (∀ k, k ≠ i → ancB l l.length i k = true → s k = sv l a' k) → Φ i s W') (hf : ∀ j s, al j = true → Φ j s W → v ≠ s j) : GoesP al P l R Φ i o a' W Q := by
  unfold GoesP
  rw [if_pos (by simp [Region.wanted, hg])]
  unfold Oper.wp
  rw [hrun]
  exact ⟨v, rfl, hR, hΦ, fun _ => ⟨hd, hf⟩⟩
end Go.Proofs.YtfkjokbhnblndaaGreatDoor
