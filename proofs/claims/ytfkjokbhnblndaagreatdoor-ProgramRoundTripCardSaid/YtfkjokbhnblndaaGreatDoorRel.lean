/- A region that draws its order, whose operations may make memory: each operation's result is described by a predicate that later growth of the memory keeps. -/
import Derived.Test.YtfkjokbhnblndaaGreatDoorRegion
namespace Go.Proofs.YtfkjokbhnblndaaGreatDoor
open Go.RowKit
set_option linter.unusedVariables false

theorem getD_false (m j : Nat) : (Array.replicate m false).getD j false = false := by
  rcases Nat.lt_or_ge j m with h | h <;> simp [h]
/-- each edge leads back -/
def backB (l : List Oper) : Bool := l.zipIdx.all fun (o, i) => o.after.toList.all fun e => !Region.binds .any e || decide (e.on < i)
theorem backB_spec {l : List Oper} (h : backB l = true) {i : Nat} {o : Oper} (ho : l[i]? = some o) {e : Edge} (he : e ∈ o.after) (hb : Region.binds .any e = true) : e.on < i := by
  unfold backB at h
  rw [List.all_eq_true] at h
  have h1 := h (o, i) (List.mem_zipIdx_iff_getElem?.2 (by simpa using ho))
  simp only [List.all_eq_true, Bool.or_eq_true, Bool.not_eq_true', decide_eq_true_eq] at h1
  rcases h1 e (by simpa using he) with h2 | h2
  · rw [hb] at h2; cases h2
  · exact h2

/-- no slot is written twice -/
def uniqB (l : List Oper) : Bool := l.zipIdx.all fun (o, i) => l.zipIdx.all fun (p, j) => decide (i = j) || (o.dst.isNone || decide (o.dst ≠ p.dst))
theorem uniqB_spec {l : List Oper} (h : uniqB l = true) {i j : Nat} {o p : Oper} (ho : l[i]? = some o) (hp : l[j]? = some p) {d : Nat} (hd : o.dst = some d) (hd' : p.dst = some d) : i = j := by
  unfold uniqB at h
  rw [List.all_eq_true] at h
  have h1 := h (o, i) (List.mem_zipIdx_iff_getElem?.2 (by simpa using ho))
  rw [List.all_eq_true] at h1
  have h2 := h1 (p, j) (List.mem_zipIdx_iff_getElem?.2 (by simpa using hp))
  simpa [hd, hd'] using h2
/-- what holds at an operation: l the operations, w the world ahead of the region, a the frame ahead of it -/
structure At (l : List Oper) (Φ : Nat → Value → World → Prop) (a : Act) (w : World) (i : Nat) (o : Oper) (a' : Act) (W : World) : Prop where
  ext : Ext w W
  size : a'.tmps.size = a.tmps.size
  defers : a'.defers = a.defers
  /-- a slot that no operation of the region writes, or one that waits for this one -/
  old : ∀ d, (∀ (j : Nat) oj, l[j]? = some oj → oj.dst = some d → ∃ e ∈ oj.after, Region.binds .any e = true ∧ e.on = i) → a'.tmps.getD d undef = a.tmps.getD d undef
  /-- what this one waits for -/
  new : ∀ (j : Nat) oj d, l[j]? = some oj → oj.dst = some d → (∃ e ∈ o.after, Region.binds .any e = true ∧ e.on = j) → Φ j (a'.tmps.getD d undef) W

theorem At.get {l : List Oper} {Φ : Nat → Value → World → Prop} {a : Act} {w : World} {i : Nat} {o : Oper} {a' : Act} {W : World} (h : At l Φ a w i o a' W) (j d : Nat) (h1 : (l[j]?).bind (·.dst) = some d) (h2 : (o.after.toList.any fun e => Region.binds .any e && decide (e.on = j)) = true) : Φ j (a'.eval (.tmp d)) W := by
  obtain ⟨oj, hj, hd⟩ := Option.bind_eq_some_iff.1 h1
  obtain ⟨e, he, hb⟩ := List.any_eq_true.1 h2
  simp only [Bool.and_eq_true, decide_eq_true_eq] at hb
  exact h.new j oj d hj hd ⟨e, by simpa using he, hb.1, hb.2⟩
theorem At.keep {l : List Oper} {Φ : Nat → Value → World → Prop} {a : Act} {w : World} {i : Nat} {o : Oper} {a' : Act} {W : World} (h : At l Φ a w i o a' W) (d : Nat)
    (h1 : (l.all fun oj => decide (oj.dst ≠ some d) || oj.after.toList.any fun e => Region.binds .any e && decide (e.on = i)) = true) : a'.eval (.tmp d) = a.eval (.tmp d) := by
  refine h.old d (fun j oj hj hd => ?_)
  have := List.all_eq_true.1 h1 oj (List.mem_of_getElem? hj)
  simp only [Bool.or_eq_true, decide_eq_true_eq] at this
  rcases this with h2 | h2
  · exact absurd hd h2
  · obtain ⟨e, he, hb⟩ := List.any_eq_true.1 h2
    simp only [Bool.and_eq_true, decide_eq_true_eq] at hb
    exact ⟨e, by simpa using he, hb.1, hb.2⟩

/-- one operation -/
def Goes (P : Program) (l : List Oper) (Φ : Nat → Value → World → Prop) (i : Nat) (o : Oper) (a' : Act) (W : World) (Q : Exit → Act → World → Prop) : Prop :=
  if Region.wanted o (yielded l.toArray a'.tmps) then o.wp P a' W (fun a2 W2 => ∃ v, a2 = a'.put o.dst v ∧ Φ i v W2 ∧ Ext W W2) Q
  else Φ i undef W

structure Inv (l : List Oper) (Φ : Nat → Value → World → Prop) (a : Act) (w : World) (listed : Array Bool) (a' : Act) (W : World) : Prop where
  ext : Ext w W
  lsize : listed.size = l.length
  size : a'.tmps.size = a.tmps.size
  defers : a'.defers = a.defers
  old : ∀ d, (∀ (j : Nat) oj, l[j]? = some oj → oj.dst = some d → listed.getD j false = false) → a'.tmps.getD d undef = a.tmps.getD d undef
  new : ∀ (j : Nat) oj d, l[j]? = some oj → oj.dst = some d → listed.getD j false = true → Φ j (a'.tmps.getD d undef) W
  down : ∀ (j : Nat) oj, l[j]? = some oj → listed.getD j false = true → ∀ e ∈ oj.after, Region.binds .any e = true → listed.getD e.on false = true

theorem count_set (l : List Bool) (i : Nat) (h : l[i]? = some false) : (l.set i true).count false + 1 = l.count false := by
  induction l generalizing i with
  | nil => simp at h
  | cons b l ih =>
    cases i with
    | zero =>
      obtain rfl : b = false := by simpa using h
      simp
    | succ i =>
      have := ih i (by simpa using h)
      simp only [List.set_cons_succ, List.count_cons]
      omega

theorem all_listed {l : List Oper} (hback : backB l = true) {listed : Array Bool} (hs : listed.size = l.length) (h0 : Region.ready .any l.toArray listed = []) : ∀ i, i < l.length → listed.getD i false = true := by
  intro i
  induction i using Nat.strongRecOn with
  | ind i ih =>
    intro hi
    cases hl : listed.getD i false with
    | true => rfl
    | false =>
      exfalso
      have hm : i ∈ Region.ready .any l.toArray listed := by
        rw [mem_ready]
        refine ⟨?_, l[i], by simp [hi], fun e he hb => ?_⟩
        · have : i < listed.size := by omega
          simp only [Array.getD_eq_getD_getElem?, Array.getElem?_eq_getElem this, Option.getD_some] at hl ⊢
          exact hl
        · have := backB_spec hback (i := i) (o := l[i]) (by simp [hi]) he hb
          exact ih e.on this (by omega)
      rw [h0] at hm
      cases hm

theorem put_self {a : Act} {o : Option Tmp} {v : Value} {d : Nat} (h : o = some d) (hd : d < a.tmps.size) : (a.put o v).tmps.getD d undef = v := by
  subst h
  simp [Act.put, Array.getD_eq_getD_getElem?, hd]
theorem put_other {a : Act} {o : Option Tmp} {v : Value} {d : Nat} (h : o ≠ some d) : (a.put o v).tmps.getD d undef = a.tmps.getD d undef := by
  cases o with
  | none => rfl
  | some x =>
    have : x ≠ d := fun e => h (by rw [e])
    simp [Act.put, Array.getD_eq_getD_getElem?, Array.getElem?_setIfInBounds_ne this]
theorem put_size {a : Act} {o : Option Tmp} {v : Value} : (a.put o v).tmps.size = a.tmps.size := by
  cases o <;> simp [Act.put]
theorem put_defers {a : Act} {o : Option Tmp} {v : Value} : (a.put o v).defers = a.defers := by
  cases o <;> simp [Act.put]

theorem wp_region_rel {P : Program} {id : Nat} {Q : Exit → Act → World → Prop} {a : Act} {w : World} {l : List Oper} (hm : P.follows .mixedOrders = true)
    (Φ : Nat → Value → World → Prop) (hst : ∀ i v W W', Φ i v W → Ext W W' → Φ i v W')
    (hback : backB l = true) (hun : uniqB l = true) (hin : ∀ d ∈ l.filterMap (·.dst), d < a.tmps.size)
    (hstep : ∀ (i : Nat) o, l[i]? = some o → ∀ a' W, At l Φ a w i o a' W → Goes P l Φ i o a' W Q)
    (hend : ∀ a' W, Ext w W → a'.tmps.size = a.tmps.size → a'.defers = a.defers → (∀ d, d ∉ l.filterMap (·.dst) → a'.tmps.getD d undef = a.tmps.getD d undef) →
      (∀ (j : Nat) oj d, l[j]? = some oj → oj.dst = some d → Φ j (a'.tmps.getD d undef) W) → Q .normal a' W) :
    (Code.region id l.toArray true).wp P Q a w := by
  refine wp_region_any hm ?_
  have huniq : ∀ (i j : Nat) oi oj d, l[i]? = some oi → l[j]? = some oj → oi.dst = some d → oj.dst = some d → i = j := by
    intro i j oi oj d hi hj di dj
    exact uniqB_spec hun hi hj di dj
  have main : ∀ (fuel : Nat) (listed : Array Bool) (a' : Act) (W : World), listed.toList.count false = fuel → Inv l Φ a w listed a' W → wpAny P .any l.toArray Q fuel listed a' W := by
    intro fuel
    induction fuel with
    | zero =>
      intro listed a' W hc hI
      have hall : ∀ i, i < l.length → listed.getD i false = true := by
        intro i hi
        have hi' : i < listed.size := by rw [hI.lsize]; exact hi
        cases hb : listed.getD i false with
        | true => rfl
        | false =>
          exfalso
          have : false ∈ listed.toList := by
            simp only [Array.getD_eq_getD_getElem?, Array.getElem?_eq_getElem hi', Option.getD_some] at hb
            rw [← hb]; simp
          have := List.count_pos_iff.2 this
          omega
      have hr : Region.ready .any l.toArray listed = [] := by
        apply List.eq_nil_iff_forall_not_mem.2
        intro i hi
        rw [mem_ready] at hi
        obtain ⟨h1, o, ho, _⟩ := hi
        have hi' : i < l.length := by
          have := (Array.getElem?_eq_some_iff.1 ho).1
          simpa using this
        have h2 := hall i hi'
        have hi2 : i < listed.size := by rw [hI.lsize]; exact hi'
        simp only [Array.getD_eq_getD_getElem?, Array.getElem?_eq_getElem hi2, Option.getD_some] at h1 h2
        rw [h1] at h2; cases h2
      exact ⟨hr, hend a' W hI.ext hI.size hI.defers (fun d hd => hI.old d (fun j oj hj hd' => absurd (List.mem_filterMap.2 ⟨oj, List.mem_of_getElem? hj, hd'⟩) hd))
        (fun j oj d hj hd => hI.new j oj d hj hd (hall j (List.getElem?_eq_some_iff.1 hj).1))⟩
    | succ fuel ih =>
      intro listed a' W hc hI
      refine ⟨fun h0 => ?_, fun i hi => ?_⟩
      · have hall := all_listed hback hI.lsize h0
        exact hend a' W hI.ext hI.size hI.defers (fun d hd => hI.old d (fun j oj hj hd' => absurd (List.mem_filterMap.2 ⟨oj, List.mem_of_getElem? hj, hd'⟩) hd))
          (fun j oj d hj hd => hI.new j oj d hj hd (hall j (List.getElem?_eq_some_iff.1 hj).1))
      · obtain ⟨hl0, o, ho, hwait⟩ := mem_ready.1 hi
        have ho' : l[i]? = some o := by simpa using ho
        have hil : i < l.length := (List.getElem?_eq_some_iff.1 ho').1
        have hil' : i < listed.size := by rw [hI.lsize]; exact hil
        have hlf : listed.getD i false = false := by
          simp only [Array.getD_eq_getD_getElem?, Array.getElem?_eq_getElem hil', Option.getD_some] at hl0 ⊢
          exact hl0
        have hAt : At l Φ a w i o a' W := ⟨hI.ext, hI.size, hI.defers,
          fun d hd => hI.old d (fun j oj hj hdj => by
            obtain ⟨e, he, hb, hei⟩ := hd j oj hj hdj
            cases hlj : listed.getD j false with
            | false => rfl
            | true =>
              have := hI.down j oj hj hlj e he hb
              rw [hei, hlf] at this; cases this),
          fun j oj d hj hdj ⟨e, he, hb, hej⟩ => hI.new j oj d hj hdj (by rw [← hej]; exact hwait e he hb)⟩
        have hG := hstep i o ho' a' W hAt
        have hnext : ∀ v W2, Φ i v W2 → Ext W W2 → wpAny P .any l.toArray Q fuel (listed.setIfInBounds i true) (a'.put o.dst v) W2 := by
          intro v W2 hv hE
          refine ih _ _ _ ?_ ?_
          · have := count_set listed.toList i (by simp [hil']; simpa [Array.getD_eq_getD_getElem?, hil'] using hlf)
            rw [Array.toList_setIfInBounds]; omega
          · have hset : ∀ j, j ≠ i → (listed.setIfInBounds i true).getD j false = listed.getD j false := fun j hj => getD_set_ne false (Ne.symm hj)
            refine ⟨hI.ext.trans hE, by simpa using hI.lsize, by rw [put_size]; exact hI.size, by rw [put_defers]; exact hI.defers, ?_, ?_, ?_⟩
            · intro d hd
              have hne : o.dst ≠ some d := fun e => by
                have := hd i o ho' e
                simp [Array.getD_eq_getD_getElem?, hil'] at this
              rw [put_other hne]
              refine hI.old d (fun j oj hj hdj => ?_)
              by_cases hji : j = i
              · subst hji; exact hlf
              · have := hd j oj hj hdj
                rwa [hset j hji] at this
            · intro j oj d hj hdj hlj
              by_cases hji : j = i
              · subst hji
                rw [ho'] at hj; cases hj
                rw [put_self hdj (by rw [hI.size]; exact hin d (List.mem_filterMap.2 ⟨o, List.mem_of_getElem? ho', hdj⟩))]
                exact hv
              · rw [hset j hji] at hlj
                rw [put_other (fun e => hji (huniq j i oj o d hj ho' hdj e))]
                exact hst _ _ _ _ (hI.new j oj d hj hdj hlj) hE
            · intro j oj hj hlj e he hb
              by_cases hji : j = i
              · subst hji
                rw [ho'] at hj; cases hj
                exact getD_set_true (hwait e he hb)
              · rw [hset j hji] at hlj
                exact getD_set_true (hI.down j oj hj hlj e he hb)
        unfold wpOp
        rw [show l.toArray[i]? = some o by simpa using ho']
        unfold Goes at hG
        by_cases hwant : Region.wanted o (yielded l.toArray a'.tmps) = true
        · rw [if_pos hwant] at hG
          simp only [hwant, if_true]
          exact .inl (Oper.wp_mono (fun a2 W2 ⟨v, e, hv, hE⟩ => by rw [e]; exact hnext v W2 hv hE) hG)
        · rw [if_neg hwant] at hG
          simp only [hwant]
          exact hnext undef W hG (Below.refl _ _)
  have h0 := main l.length (Array.replicate l.length false) a { w with drawn := w.drawn + 1 } (by simp)
    ⟨(⟨rfl, rfl, rfl, Nat.le_refl _, fun _ _ => rfl⟩ : Ext w { w with drawn := w.drawn + 1 }), by simp, rfl, rfl, fun _ _ => rfl, (fun j oj d _ _ h => by rw [getD_false] at h; cases h), (fun j oj _ h => by rw [getD_false] at h; cases h)⟩
  simpa using h0

/-- the frame behind the region, its values given -/
def putAll : List Oper → List Value → Act → Act
  | o :: l, v :: vs, a => putAll l vs (a.put o.dst v)
  | _, _, a => a
theorem putAll_size : ∀ (l : List Oper) (vs : List Value) (a : Act), (putAll l vs a).tmps.size = a.tmps.size
  | [], _, _ => rfl
  | _ :: _, [], _ => rfl
  | o :: l, v :: vs, a => by rw [putAll, putAll_size l vs, put_size]
theorem putAll_defers : ∀ (l : List Oper) (vs : List Value) (a : Act), (putAll l vs a).defers = a.defers
  | [], _, _ => rfl
  | _ :: _, [], _ => rfl
  | o :: l, v :: vs, a => by rw [putAll, putAll_defers l vs, put_defers]
theorem putAll_other : ∀ (l : List Oper) (vs : List Value) (a : Act) (d : Nat), (∀ o ∈ l, o.dst ≠ some d) → (putAll l vs a).tmps.getD d undef = a.tmps.getD d undef
  | [], _, _, _, _ => rfl
  | _ :: _, [], _, _, _ => rfl
  | o :: l, v :: vs, a, d, h => by
    rw [putAll, putAll_other l vs _ d (fun o' ho' => h o' (List.mem_cons_of_mem _ ho')), put_other (h o (List.mem_cons_self ..))]
theorem putAll_self : ∀ (l : List Oper) (vs : List Value) (a : Act) (j : Nat) (o : Oper) (d : Nat), vs.length = l.length → l[j]? = some o → o.dst = some d → (∀ (i : Nat) p, l[i]? = some p → p.dst = some d → i = j) → d < a.tmps.size →
    (putAll l vs a).tmps.getD d undef = vs.getD j undef
  | [], _, _, j, _, _, _, h, _, _, _ => by simp at h
  | _ :: _, [], _, _, _, _, hl, _, _, _, _ => by simp at hl
  | o :: l, v :: vs, a, 0, p, d, hl, h, hd, hu, hs => by
    obtain rfl : o = p := by simpa using h
    rw [putAll, putAll_other l vs _ d (fun q hq e => by
      obtain ⟨i, hi⟩ := List.getElem?_of_mem hq
      have := hu (i + 1) q (by simpa using hi) e
      omega), put_self hd hs]
    rfl
  | o :: l, v :: vs, a, j + 1, p, d, hl, h, hd, hu, hs => by
    rw [putAll, putAll_self l vs _ j p d (by simpa using hl) (by simpa using h) hd (fun i q hq e => by
      have := hu (i + 1) q (by simpa using hq) e
      omega) (by rw [put_size]; exact hs)]
    rfl

theorem act_eq {a b : Act} (hs : a.tmps.size = b.tmps.size) (hd : a.defers = b.defers) (h : ∀ d, d < a.tmps.size → a.tmps.getD d undef = b.tmps.getD d undef) : a = b := by
  obtain ⟨ta, da⟩ := a
  obtain ⟨tb, db⟩ := b
  simp only at hs hd h
  have : ta = tb := by
    apply Array.ext hs
    intro i h1 h2
    have := h i h1
    simpa [Array.getD_eq_getD_getElem?, h1, h2] using this
  rw [this, hd]

/-- the theorem, its end with the values named -/
theorem wp_region_vals {P : Program} {id : Nat} {Q : Exit → Act → World → Prop} {a : Act} {w : World} {l : List Oper} (hm : P.follows .mixedOrders = true)
    (Φ : Nat → Value → World → Prop) (hst : ∀ i v W W', Φ i v W → Ext W W' → Φ i v W')
    (hback : backB l = true) (hun : uniqB l = true) (N : Nat) (hN : a.tmps.size = N) (hinB : ((l.filterMap (·.dst)).all fun d => decide (d < N)) = true) (hall : l.all (·.dst.isSome) = true)
    (hstep : ∀ (i : Nat) o, l[i]? = some o → ∀ a' W, At l Φ a w i o a' W → Goes P l Φ i o a' W Q)
    (hend : ∀ (vs : List Value) W, vs.length = l.length → Ext w W → (∀ j, j < l.length → Φ j (vs.getD j undef) W) → Q .normal (putAll l vs a) W) :
    (Code.region id l.toArray true).wp P Q a w := by
  have hin : ∀ d ∈ l.filterMap (·.dst), d < a.tmps.size := fun d hd => by rw [hN]; exact of_decide_eq_true (List.all_eq_true.1 hinB d hd)
  refine wp_region_rel hm Φ hst hback hun hin hstep ?_
  intro a' W hE hs hd hold hnew
  have hsome : ∀ (j : Nat) o, l[j]? = some o → ∃ d, o.dst = some d := fun j o ho => by
    have := (List.all_eq_true.1 hall) o (List.mem_of_getElem? ho)
    exact Option.isSome_iff_exists.1 this
  have e : a' = putAll l (l.map fun o => a'.tmps.getD (o.dst.getD 0) undef) a := by
    refine act_eq (by rw [putAll_size]; exact hs) (by rw [putAll_defers]; exact hd) ?_
    intro d hlt
    by_cases hm : d ∈ l.filterMap (·.dst)
    · obtain ⟨o, ho, hod⟩ := List.mem_filterMap.1 hm
      obtain ⟨j, hj⟩ := List.getElem?_of_mem ho
      rw [putAll_self l _ a j o d (by simp) hj hod (fun i p hp e => uniqB_spec hun hp hj e hod) (by rw [← hs]; exact hlt)]
      rw [List.getD_eq_getElem?_getD, List.getElem?_map, hj]
      simp [hod]
    · rw [putAll_other l _ a d (fun o ho e => hm (List.mem_filterMap.2 ⟨o, ho, e⟩))]
      exact hold d hm
  rw [e]
  refine hend _ W (by simp) hE (fun j hj => ?_)
  obtain ⟨d, hdd⟩ := hsome j l[j] (by simp [hj])
  have := hnew j l[j] d (by simp [hj]) hdd
  rw [List.getD_eq_getElem?_getD, List.getElem?_map]
  simpa [hj, hdd] using this

theorem Goes.value {P : Program} {l : List Oper} {Φ : Nat → Value → World → Prop} {i : Nat} {o : Oper} {a' : Act} {W W' : World} {Q : Exit → Act → World → Prop} (v : Value) (hg : o.guard = none) (hrun : (execOp a'.eval o).run P W = .ok (.value v) W') (hΦ : Φ i v W') (hE : Ext W W') : Goes P l Φ i o a' W Q := by
  unfold Goes
  rw [if_pos (by simp [Region.wanted, hg])]
  unfold Oper.wp
  rw [hrun]
  exact ⟨v, rfl, hΦ, hE⟩
theorem Goes.move {P : Program} {l : List Oper} {Φ : Nat → Value → World → Prop} {i : Nat} {o : Oper} {a' : Act} {W : World} {Q : Exit → Act → World → Prop} (x : Operand) (hg : o.guard = none) (hop : o.op = .move x) (hΦ : Φ i (a'.eval x) W) : Goes P l Φ i o a' W Q :=
  Goes.value _ hg (BigFrame.run_move x hop _) hΦ (Below.refl _ _)
theorem Goes.call {P : Program} {l : List Oper} {Φ : Nat → Value → World → Prop} {i : Nat} {o : Oper} {a' : Act} {W : World} {Q : Exit → Act → World → Prop} (f : FuncId) (args : Array Value) (v : Value) (hg : o.guard = none) (hrun : (execOp a'.eval o).run P W = .ok (.enter f args) W) (hc : Gives P f args W v) (hΦ : ∀ W', Ext W W' → Φ i v W') : Goes P l Φ i o a' W Q := by
  unfold Goes
  rw [if_pos (by simp [Region.wanted, hg])]
  unfold Oper.wp
  rw [hrun]
  exact hc.mono fun W' hb => ⟨v, rfl, hΦ W' hb, hb⟩

end Go.Proofs.YtfkjokbhnblndaaGreatDoor
