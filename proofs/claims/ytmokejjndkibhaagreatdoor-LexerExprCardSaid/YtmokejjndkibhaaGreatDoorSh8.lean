/- Lemmas and walks for the statements of this seat, part 8, merged from smaller texts: A drawn region, head and tail, where the world is known as long as no operation of a class has come up. Printed by mk_rts.py.; The reader's operand. -/
import Derived.Deep.Cut
import Derived.Test.YtmokejjndkibhaaGreatDoorSh4
import Derived.Test.YtmokejjndkibhaaGreatDoorSh7

namespace Go.Proofs.YtmokejjndkibhaaGreatDoor
open Go.RowKit
set_option linter.unusedVariables false
set_option linter.unusedSimpArgs false

/-- AtG; and as long as no operation of C but this one can have come up, the world is as it was -/
structure AtS (l : List Oper) (R : World → World → Prop) (Φ : Nat → (Nat → Value) → World → Prop) (C : Nat → Bool) (a : Act) (w : World) (i : Nat) (o : Oper) (a' : Act) (W : World) : Prop extends AtG l R Φ a w i o a' W where
  same : (∀ j, j < l.length → C j = true → j = i ∨ ancB l l.length j i = true) → W = { w with drawn := w.drawn + 1 }
structure InvS (l : List Oper) (R : World → World → Prop) (Φ : Nat → (Nat → Value) → World → Prop) (C : Nat → Bool) (a : Act) (w : World) (listed : Array Bool) (a' : Act) (W : World) : Prop extends InvG l R Φ a w listed a' W where
  same : (∀ j, j < l.length → C j = true → listed.getD j false = false) → W = { w with drawn := w.drawn + 1 }
def GoesS (P : Program) (l : List Oper) (R : World → World → Prop) (Φ : Nat → (Nat → Value) → World → Prop) (C : Nat → Bool) (i : Nat) (o : Oper) (a' : Act) (W : World) (Q : Exit → Act → World → Prop) : Prop :=
  if Region.wanted o (yielded l.toArray a'.tmps) then
    o.wp P a' W (fun a2 W2 => ∃ v, a2 = a'.put o.dst v ∧ R W W2 ∧ (C i = false → W2 = W) ∧ ∀ s : Nat → Value, (o.dst.isSome = true → s i = v) → (∀ k, k ≠ i → ancB l l.length i k = true → s k = sv l a' k) → Φ i s W2) Q
  else R W W ∧ ∀ s : Nat → Value, (o.dst.isSome = true → s i = undef) → (∀ k, k ≠ i → ancB l l.length i k = true → s k = sv l a' k) → Φ i s W
/-- an operation of C -/
theorem GoesS.of {P : Program} {l : List Oper} {R : World → World → Prop} {Φ : Nat → (Nat → Value) → World → Prop} {C : Nat → Bool} {i : Nat} {o : Oper} {a' : Act} {W : World} {Q : Exit → Act → World → Prop} (hC : C i = true) (h : GoesG P l R Φ i o a' W Q) : GoesS P l R Φ C i o a' W Q := by
  unfold GoesS
  unfold GoesG at h
  split
  · rename_i hw
    rw [if_pos hw] at h
    exact Oper.wp_mono (fun a2 W2 ⟨v, e, hR, hv⟩ => ⟨v, e, hR, (fun e => by rw [hC] at e; cases e), hv⟩) h
  · rename_i hw
    rw [if_neg hw] at h
    exact h
/-- an operation that leaves the world -/
theorem GoesS.still {P : Program} {l : List Oper} {R : World → World → Prop} {Φ : Nat → (Nat → Value) → World → Prop} {C : Nat → Bool} {i : Nat} {o : Oper} {a' : Act} {W : World} {Q : Exit → Act → World → Prop} (hR : R W W) (h : GoesG P l (fun A B => B = A) Φ i o a' W Q) : GoesS P l R Φ C i o a' W Q := by
  unfold GoesS
  unfold GoesG at h
  split
  · rename_i hw
    rw [if_pos hw] at h
    exact Oper.wp_mono (fun a2 W2 ⟨v, e, he, hv⟩ => ⟨v, e, by rw [he]; exact hR, fun _ => he, hv⟩) h
  · rename_i hw
    rw [if_neg hw] at h
    exact ⟨hR, h.2⟩

theorem wp_region_tails {P : Program} {id : Nat} {Q : Exit → Act → World → Prop} {a : Act} {w : World} {l1 l2 : List Oper} (hm : P.follows .mixedOrders = true)
    (R : World → World → Prop) (hRr : ∀ W, R W W) (hR0 : ∀ W : World, R W { W with drawn := W.drawn + 1 }) (hRt : ∀ {A B C}, R A B → R B C → R A C)
    (Φ : Nat → (Nat → Value) → World → Prop) (C : Nat → Bool) (D : Nat → List Nat) (hst : ∀ j s s' W W', Φ j s W → (∀ k ∈ D j, s' k = s k) → R W W' → Φ j s' W')
    (hback : backB (l1 ++ l2) = true) (hun : uniqB (l1 ++ l2) = true) (hreads : readsB (l1 ++ l2) D = true) (N : Nat) (hN : a.tmps.size = N) (hinB : (((l1 ++ l2).filterMap (·.dst)).all fun d => decide (d < N)) = true)
    (htail : tailB (l1 ++ l2) l1.length = true)
    (hstep : ∀ (i : Nat) o, l1[i]? = some o → ∀ a' W, AtS (l1 ++ l2) R Φ C a w i o a' W → GoesS P (l1 ++ l2) R Φ C i o a' W Q)
    (hend : ∀ (vs : List Value) W, vs.length = l1.length → R w W → (∀ j, j < l1.length → Φ j (fun k => vs.getD k undef) W) → wpList P (l1 ++ l2).toArray Q l2 (putAll l1 vs a) W) :
    (Code.region id (l1 ++ l2).toArray true).wp P Q a w := by
  have hin : ∀ d ∈ (l1 ++ l2).filterMap (·.dst), d < a.tmps.size := fun d hd => by rw [hN]; exact of_decide_eq_true (List.all_eq_true.1 hinB d hd)
  generalize hl : l1 ++ l2 = l at *
  have hl1 : ∀ j, j < l1.length → l1[j]? = l[j]? := fun j hj => by rw [← hl, List.getElem?_append_left hj]
  have hlen : l1.length ≤ l.length := by rw [← hl]; simp
  have hdrop : l2 = l.drop l1.length := by rw [← hl]; simp
  refine wp_region_any hm ?_
  have fin : ∀ (listed : Array Bool) (a' : Act) (W : World), listed.toList.count false = l.length - l1.length → (∀ j, l1.length ≤ j → listed.getD j false = false) → (∀ j, j < l1.length → listed.getD j false = true) → InvS l R Φ C a w listed a' W →
      wpAny P .any l.toArray Q (l.length - l1.length) listed a' W := by
    intro listed a' W hc hlo hall hI
    refine tail_any hback htail l2 l1.length listed a' W hdrop (Nat.le_refl _) hlen hI.lsize hall hlo ?_
    have e : a' = putAll l1 (l1.map fun o => match o.dst with | none => undef | some d => a'.tmps.getD d undef) a := by
      refine act_eq (by rw [putAll_size]; exact hI.size) (by rw [putAll_defers]; exact hI.defers) ?_
      intro d hlt
      by_cases hm : d ∈ l1.filterMap (·.dst)
      · obtain ⟨o, ho, hod⟩ := List.mem_filterMap.1 hm
        obtain ⟨j, hj⟩ := List.getElem?_of_mem ho
        have hjl : j < l1.length := (List.getElem?_eq_some_iff.1 hj).1
        rw [putAll_self l1 _ a j o d (by simp) hj hod (fun i p hp e => uniqB_spec hun (by rw [← hl1 i (List.getElem?_eq_some_iff.1 hp).1]; exact hp) (by rw [← hl1 j hjl]; exact hj) e hod) (by rw [← hI.size]; exact hlt)]
        rw [List.getD_eq_getElem?_getD, List.getElem?_map, hj]
        simp [hod]
      · rw [putAll_other l1 _ a d (fun o ho e => hm (List.mem_filterMap.2 ⟨o, ho, e⟩))]
        refine hI.old d (fun j oj hj hd => ?_)
        rcases Nat.lt_or_ge j l1.length with h | h
        · exact absurd (List.mem_filterMap.2 ⟨oj, List.mem_of_getElem? (by rw [hl1 j h]; exact hj), hd⟩) hm
        · exact hlo j h
    rw [e]
    refine hend _ W (by simp) hI.rel (fun j hj => ?_)
    refine hst j _ _ W W (hI.new j (by omega) (hall j hj)) (fun k hk => ?_) (hRr W)
    have hkj : k ≤ j := by
      have h1 := List.all_eq_true.1 (List.all_eq_true.1 hreads j (List.mem_range.2 (by omega))) k hk
      simp only [Bool.or_eq_true, decide_eq_true_eq] at h1
      rcases h1 with h1 | h1
      · omega
      · exact Nat.le_of_lt (anc_back hback _ _ _ h1)
    have hkl : k < l1.length := by omega
    unfold sv
    rw [List.getD_eq_getElem?_getD, List.getElem?_map, hl1 k hkl]
    cases hk : l[k]? with
    | none => rfl
    | some o => cases hod : o.dst <;> simp [hod]
  have main : ∀ (fuel : Nat) (listed : Array Bool) (a' : Act) (W : World), listed.toList.count false = fuel → (∀ j, l1.length ≤ j → listed.getD j false = false) → InvS l R Φ C a w listed a' W → wpAny P .any l.toArray Q fuel listed a' W := by
    intro fuel
    have cnt : ∀ (listed : Array Bool), listed.size = l.length → (∀ j, l1.length ≤ j → listed.getD j false = false) → (∀ j, j < l1.length → listed.getD j false = true) → listed.toList.count false = l.length - l1.length := by
      intro listed hs hlo hall
      have e : listed.toList = List.replicate l1.length true ++ List.replicate (l.length - l1.length) false := by
        apply List.ext_getElem?
        intro i
        by_cases hi : i < listed.size
        · have hg : ∀ b, listed.getD i false = b → listed.toList[i]? = some b := fun b hb => by
            rw [getD_of_lt hi false true] at hb
            simp only [Array.getD_eq_getD_getElem?, Array.getElem?_eq_getElem hi, Option.getD_some] at hb
            simp [hi, hb]
          by_cases h : i < l1.length
          · rw [hg true (hall i h), List.getElem?_append_left (by simpa using h)]
            simp [h]
          · rw [hg false (hlo i (by omega)), List.getElem?_append_right (by simp; omega), List.getElem?_replicate, if_pos (by rw [List.length_replicate]; omega)]
        · rw [List.getElem?_eq_none (by simpa using hi), List.getElem?_eq_none (by simp; omega)]
      rw [e, List.count_append, List.count_replicate, List.count_replicate]
      simp
    induction fuel with
    | zero =>
      intro listed a' W hc hlo hI
      have hall' : ∀ i, i < l.length → listed.getD i false = true := by
        intro i hi
        have hi' : i < listed.size := by rw [hI.lsize]; exact hi
        cases hb : listed.getD i false with
        | true => rfl
        | false =>
          exfalso
          have : false ∈ listed.toList := by
            simp only [Array.getD_eq_getD_getElem?, Array.getElem?_eq_getElem hi', Option.getD_some] at hb
            rw [← hb]; simp
          have := List.count_pos_iff.2 this
          omega
      have hall : ∀ i, i < l1.length → listed.getD i false = true := fun i hi => hall' i (by omega)
      have hc2 := cnt listed hI.lsize hlo hall
      have := fin listed a' W hc2 hlo hall hI
      rw [show l.length - l1.length = 0 by omega] at this
      exact this
    | succ fuel ih =>
      intro listed a' W hc hlo hI
      by_cases hall : ∀ j, j < l1.length → listed.getD j false = true
      · have hc2 := cnt listed hI.lsize hlo hall
        have := fin listed a' W hc2 hlo hall hI
        rw [show l.length - l1.length = fuel + 1 by omega] at this
        exact this
      · obtain ⟨j0, hj0⟩ := Classical.not_forall.1 hall
        obtain ⟨hj0l, hj0f⟩ := Classical.not_imp.1 hj0
        refine ⟨fun h0 => ?_, fun i hi => ?_⟩
        · exact absurd (all_listed hback hI.lsize h0 j0 (by omega)) hj0f
        · obtain ⟨hl0, o, ho, hwait⟩ := mem_ready.1 hi
          have ho' : l[i]? = some o := by simpa using ho
          have hil : i < l.length := (List.getElem?_eq_some_iff.1 ho').1
          have hil' : i < listed.size := by rw [hI.lsize]; exact hil
          have hlf : listed.getD i false = false := by
            rw [getD_of_lt hil' false true]; exact hl0
          have hanc : ∀ n k, ancB l n i k = true → listed.getD k false = true := by
            intro n k hk
            cases n with
            | zero => simp [ancB] at hk
            | succ n =>
              unfold ancB at hk
              rw [ho'] at hk
              obtain ⟨e, he, hh⟩ := List.any_eq_true.1 hk
              simp only [Bool.and_eq_true, Bool.or_eq_true, decide_eq_true_eq] at hh
              have h1 := hwait e (by simpa using he) hh.1
              rcases hh.2 with h2 | h2
              · rw [← h2]; exact h1
              · exact hI.down.anc n e.on k h1 h2
          have hi1 : i < l1.length := by
            rcases Nat.lt_or_ge i l1.length with h | h
            · exact h
            · exact absurd (hanc _ _ (tailB_spec htail hil h (by omega : j0 < i))) hj0f
          have hAt : AtS l R Φ C a w i o a' W := ⟨⟨hI.rel, hI.size, hI.defers,
            fun d hd => hI.old d (fun j oj hj hdj => by
              have hji := hd j oj hj hdj
              cases hlj : listed.getD j false with
              | false => rfl
              | true =>
                have := hI.down.anc _ j i hlj hji
                rw [hlf] at this; cases this),
            fun j hj ha => hI.new j hj (hanc _ j ha)⟩, fun hC => hI.same (fun j hj hCj => by
              rcases hC j hj hCj with h | h
              · subst h; exact hlf
              · cases hlj : listed.getD j false with
                | false => rfl
                | true =>
                  have := hI.down.anc _ j i hlj h
                  rw [hlf] at this; cases this)⟩
          have hG := hstep i o (by rw [hl1 i hi1]; exact ho') a' W hAt
          have hnext : ∀ v W2, R W W2 → (C i = false → W2 = W) → (∀ s : Nat → Value, (o.dst.isSome = true → s i = v) → (∀ k, k ≠ i → ancB l l.length i k = true → s k = sv l a' k) → Φ i s W2) → wpAny P .any l.toArray Q fuel (listed.setIfInBounds i true) (a'.put o.dst v) W2 := by
            intro v W2 hR hS hv
            have hin' : ∀ d ∈ l.filterMap (·.dst), d < a'.tmps.size := fun d hd => by rw [hI.size]; exact hin d hd
            have hset : ∀ j, j ≠ i → (listed.setIfInBounds i true).getD j false = listed.getD j false := fun j hj => getD_set_ne false (Ne.symm hj)
            refine ih _ _ _ ?_ (fun j hj => by rw [hset j (by omega)]; exact hlo j hj) ?_
            · have := count_set listed.toList i (by simp [hil']; simpa [Array.getD_eq_getD_getElem?, hil'] using hlf)
              rw [Array.toList_setIfInBounds]; omega
            · refine ⟨⟨hRt hI.rel hR, by simpa using hI.lsize, by rw [put_size]; exact hI.size, by rw [put_defers]; exact hI.defers, ?_, ?_, ?_⟩, ?_⟩
              · intro d hd
                have hne : o.dst ≠ some d := fun e => by
                  have := hd i o ho' e
                  simp [Array.getD_eq_getD_getElem?, hil'] at this
                rw [put_other hne]
                refine hI.old d (fun j oj hj hdj => ?_)
                by_cases hji : j = i
                · subst hji; exact hlf
                · have := hd j oj hj hdj
                  rwa [hset j hji] at this
              · intro j hj hlj
                by_cases hji : j = i
                · subst hji
                  exact hv _ (fun hd => sv_put_self ho' hin' hd) (fun k hk _ => sv_put_other hun ho' hk)
                · rw [hset j hji] at hlj
                  refine hst j _ _ _ _ (hI.new j hj hlj) (fun k hk => sv_put_other hun ho' ?_) hR
                  rintro rfl
                  have h1 := List.all_eq_true.1 (List.all_eq_true.1 hreads j (List.mem_range.2 hj)) k hk
                  simp only [Bool.or_eq_true, decide_eq_true_eq] at h1
                  rcases h1 with h1 | h1
                  · exact hji h1.symm
                  · have := hI.down.anc _ j k hlj h1
                    rw [hlf] at this; cases this
              · intro j oj hj hlj e he hb
                by_cases hji : j = i
                · subst hji
                  rw [ho'] at hj; cases hj
                  exact getD_set_true (hwait e he hb)
                · rw [hset j hji] at hlj
                  exact getD_set_true (hI.down j oj hj hlj e he hb)
              · intro hC
                have hCi : C i = false := by
                  cases hci : C i with
                  | false => rfl
                  | true =>
                    have := hC i hil hci
                    simp [Array.getD_eq_getD_getElem?, hil'] at this
                rw [hS hCi]
                refine hI.same (fun j hj hCj => ?_)
                have hji : j ≠ i := by rintro rfl; rw [hCi] at hCj; cases hCj
                have := hC j hj hCj
                rwa [hset j hji] at this
          unfold wpOp
          rw [show l.toArray[i]? = some o by simpa using ho']
          unfold GoesS at hG
          by_cases hwant : Region.wanted o (yielded l.toArray a'.tmps) = true
          · rw [if_pos hwant] at hG
            simp only [hwant, if_true]
            exact .inl (Oper.wp_mono (fun a2 W2 ⟨v, e, hR, hS, hv⟩ => by rw [e]; exact hnext v W2 hR hS hv) hG)
          · rw [if_neg hwant] at hG
            simp only [hwant]
            exact hnext undef W hG.1 (fun _ => rfl) hG.2
  have h0 := main l.length (Array.replicate l.length false) a { w with drawn := w.drawn + 1 } (by simp) (fun j _ => getD_false _ _)
    ⟨⟨hR0 w, by simp, rfl, rfl, fun _ _ => rfl, (fun j _ h => by rw [getD_false] at h; cases h), (fun j oj _ h => by rw [getD_false] at h; cases h)⟩, fun _ => rfl⟩
  simpa using h0

end Go.Proofs.YtmokejjndkibhaaGreatDoor

namespace Go.Proofs.YtmokejjndkibhaaGreatDoor
open Go.RowKit Go.Shelf Ex
set_option linter.unusedVariables false
set_option linter.unusedSimpArgs false

/-- all blocks but k are as they were -/
structure Oth (k : Nat) (w w' : World) : Prop where
  os : w'.os = w.os
  tape : w'.tape = w.tape
  output : w'.output = w.output
  size : w.heap.size ≤ w'.heap.size
  other : ∀ j, j < w.heap.size → j ≠ k → w'.heap[j]? = w.heap[j]?
theorem Oth.refl (k : Nat) (w : World) : Oth k w w := ⟨rfl, rfl, rfl, Nat.le_refl _, fun _ _ _ => rfl⟩
theorem Oth.drawn (k : Nat) (w : World) : Oth k w { w with drawn := w.drawn + 1 } := ⟨rfl, rfl, rfl, Nat.le_refl _, fun _ _ _ => rfl⟩
theorem Oth.trans {k : Nat} {a b c : World} (h : Oth k a b) (g : Oth k b c) : Oth k a c :=
  ⟨g.os.trans h.os, g.tape.trans h.tape, g.output.trans h.output, Nat.le_trans h.size g.size, fun j hj hk => (g.other j (Nat.lt_of_lt_of_le hj h.size) hk).trans (h.other j hj hk)⟩
theorem Oth.of_ext {k : Nat} {w w' : World} (h : Ext w w') : Oth k w w' := ⟨h.os, h.tape, h.output, h.size, fun j hj _ => h.below.block j hj⟩
theorem Oth.set (k i : Nat) (v : Value) (w : World) : Oth k w (w.setCell ⟨k, i, none⟩ v) := ⟨rfl, rfl, rfl, by simp [World.setCell], fun j _ hj => Below.heap_setCell _ _ _ _ hj⟩
theorem Oth.below {k B : Nat} {w w' : World} (h : Oth k w w') (hk : B ≤ k) (hB : B ≤ w.heap.size) : Below B w w' := ⟨h.os, h.tape, h.output, h.size, fun j hj => h.other j (by omega) (by omega)⟩
theorem _root_.Go.Proofs.YtmokejjndkibhaaGreatDoor.Ex.AtB.oth {S : Nat → Prop} {w W : World} {p : Option Addr} {e : Ex} {k : Nat} (h : AtB S w p e) (hE : Oth k w W) (hS : ∀ b, S b → b ≠ k) : AtB S W p e := h.keep (fun b hb hl => ⟨hb, hE.other b hl (hS b hb)⟩)
/-- what a reading method gives -/
def Got (R : Nat) (p : Option Addr) (n c : Nat) (w : World) (r : Res) (e : Ending) (w' : World) : Prop := match r with
  | .ok x j => ∃ q c', e = .returned (x.val q c') ∧ AtB (w.heap.size ≤ ·) w' q x ∧ Oth R w w' ∧ w'.heap[R]? = some (rdO p n c j)
  | .bad j => e = .panicked [{ v := .iface tWr (.int .i64 (j : Int)), recovered := false }] ∧ Oth R w w'
/-- what a reader reads, in the world in which reading began -/
structure RdE (w0 : World) (R : Nat) (p : Option Addr) (c : Nat) (l : List Tk) : Prop where
  tks : TkRow w0 p l
  tab : TabW w0
  max : MaxL w0
  low : w0.heap.size ≤ R
  len : l.length ≤ 10000
  cap : l.length ≤ c
  txt : ∀ t ∈ l, t.text.length ≤ 140737488351232
def OpC (w0 : World) (R : Nat) (p : Option Addr) (c : Nat) (l : List Tk) (k : Nat) : Prop := ∀ w r, Below w0.heap.size w0 w → w.heap[R]? = some (rdO p l.length c k) → Rd l .opd k r →
  Calls Tryz.prog 91 #[.pointer (some ⟨R, 0, none⟩)] w (Got R p l.length c w r)
def BiC (w0 : World) (R : Nat) (p : Option Addr) (c : Nat) (l : List Tk) (P k : Nat) : Prop := ∀ w r, Below w0.heap.size w0 w → w.heap[R]? = some (rdO p l.length c k) → Rd l (.bin P) k r →
  Calls Tryz.prog 61 #[.pointer (some ⟨R, 0, none⟩), .int .i64 (P : Int)] w (Got R p l.length c w r)

theorem low_ext {w0 w W : World} (h : Below w0.heap.size w0 w) (hE : Ext w W) : Below w0.heap.size w0 W := Below.trans h (hE.below.mono h.size)

theorem Ext.cellE {w W : World} {b i : Nat} {v : Value} (h : w.cell? ⟨b, i, none⟩ = some v) (hE : Ext w W) : W.cell? ⟨b, i, none⟩ = some v := (hE.below.cell (p := ⟨b, i, none⟩) (cell_lt' h)).trans h

theorem Oth.then {k : Nat} {a b c : World} (h : Oth k a b) (g : Below a.heap.size b c) : Oth k a c :=
  ⟨g.os.trans h.os, g.tape.trans h.tape, g.output.trans h.output, Nat.le_trans h.size g.size, fun j hj hk => (g.block j hj).trans (h.other j hj hk)⟩
theorem put5n {W : World} {B : Nat} {c : Array Value} {T : TypeId} {f : Nat × Nat} (h : W.heap[B]? = some (.cells c T f)) (hc : c.size = 5) (x0 x1 x2 x3 x4 : Value) :
    ∃ W', (((((W.setCell ⟨B, 0, none⟩ x0).setCell ⟨B, 1, none⟩ x1).setCell ⟨B, 2, none⟩ x2).setCell ⟨B, 3, none⟩ x3).setCell ⟨B, 4, none⟩ x4) = W' ∧ W'.heap[B]? = some (.cells #[x0, x1, x2, x3, x4] T f) ∧
    (∀ n₀, n₀ ≤ B → Below n₀ W W') ∧ (∀ b, b ≠ B → W'.heap[b]? = W.heap[b]?) := by
  obtain ⟨h1, h2, h3⟩ := put5 h hc x0 x1 x2 x3 x4
  exact ⟨_, rfl, h1, h2, h3⟩
theorem fits_nam {s : List UInt8} (h : s.length ≤ 140737488351232) : fits (namX s) :=
  ⟨⟨by show _ ≤ (2 : Int); omega, by show (2 : Int) ≤ _; omega⟩, ⟨by show _ ≤ (0 : Int); omega, by show (0 : Int) ≤ _; omega⟩, by show s.length ≤ _; omega, ⟨by show _ ≤ (0 : Int); omega, by show (0 : Int) ≤ _; omega⟩, by show ([] : List Ex).length ≤ _; simp⟩
theorem fits_un {o : Int} (h : o = 1 ∨ o = 2) (e : Ex) : fits (unX o e) :=
  ⟨⟨by show _ ≤ (3 : Int); omega, by show (3 : Int) ≤ _; omega⟩, ⟨by show _ ≤ o; omega, by show o ≤ _; omega⟩, by show ([] : List UInt8).length ≤ _; simp, ⟨by show _ ≤ (0 : Int); omega, by show (0 : Int) ≤ _; omega⟩, by show ([e] : List Ex).length ≤ _; simp⟩
theorem fits_bin {o : Int} (h0 : 0 ≤ o) (h1 : o ≤ 100) (e f : Ex) : fits (binX o e f) :=
  ⟨⟨by show _ ≤ (4 : Int); omega, by show (4 : Int) ≤ _; omega⟩, ⟨by show _ ≤ o; omega, by show o ≤ _; omega⟩, by show ([] : List UInt8).length ≤ _; simp, ⟨by show _ ≤ (0 : Int); omega, by show (0 : Int) ≤ _; omega⟩, by show ([e, f] : List Ex).length ≤ _; simp⟩
theorem at_un {S : Nat → Prop} {W : World} {G cc : Nat} {e : Ex} {q : Option Addr} {t : TypeId} {f : Nat × Nat} {o : Int} (ho : o = 1 ∨ o = 2) (hb : W.heap[G]? = some (.cells #[.int .i64 e.kind, .int .i64 e.op, sV e.name, .int .i64 e.value, .slice q e.args.length cc] t f)) (hG : S G) (hA : AtB S W q e) : AtB S W (some ⟨G, 0, none⟩) (unX o e) :=
  ⟨fits_un ho e, ⟨⟨G, 0, q, cc, rfl, hG, ⟨cell_of hb rfl, cell_of hb rfl, cell_of hb rfl, cell_of hb rfl, cell_of hb rfl⟩, hA⟩, trivial⟩⟩
theorem at_bin {S : Nat → Prop} {W : World} {G cc cd : Nat} {e e2 : Ex} {q q2 : Option Addr} {t : TypeId} {f : Nat × Nat} {o : Int} (h0 : 0 ≤ o) (h1 : o ≤ 100) (hb : W.heap[G]? = some (.cells #[.int .i64 e.kind, .int .i64 e.op, sV e.name, .int .i64 e.value, .slice q e.args.length cc, .int .i64 e2.kind, .int .i64 e2.op, sV e2.name, .int .i64 e2.value, .slice q2 e2.args.length cd] t f)) (hG : S G) (hA : AtB S W q e) (hA2 : AtB S W q2 e2) : AtB S W (some ⟨G, 0, none⟩) (binX o e e2) :=
  ⟨fits_bin h0 h1 e e2, ⟨⟨G, 0, q, cc, rfl, hG, ⟨cell_of hb rfl, cell_of hb rfl, cell_of hb rfl, cell_of hb rfl, cell_of hb rfl⟩, hA⟩, ⟨G, 0, q2, cd, rfl, hG, ⟨cell_of hb rfl, cell_of hb rfl, cell_of hb rfl, cell_of hb rfl, cell_of hb rfl⟩, hA2⟩, trivial⟩⟩
theorem chk_nam (s : List UInt8) : (namX s).chk = if isNm s then 0 else 5 := by
  have e1 : (namX s).size = 1 := by simp [Ex.size, Ex.sizes]
  have e2 : (namX s).height = 1 := by simp [Ex.height, Ex.heights]
  have e3 : (namX s).fe = if isNm s then 0 else 5 := by
    cases h : isNm s <;> simp [Ex.fe, Ex.fes, pc', arity, h]
  unfold Ex.chk
  rw [e1, e2, e3]
  simp
set_option maxRecDepth 100000 in
set_option maxHeartbeats 8000000 in
theorem operand_num {w0 : World} {R : Nat} {p : Option Addr} {c : Nat} {l : List Tk} (hE : RdE w0 R p c l) (k : Nat) (hk : k < l.length) (h1 : l[k].kind = 2) (h2 : numOk l[k] = true) (w : World) (hb : Below w0.heap.size w0 w) (hrd : w.heap[R]? = some (rdO p l.length c k)) :
    Calls Tryz.prog 91 #[.pointer (some ⟨R, 0, none⟩)] w (Got R p l.length c w (.ok (numX l[k].val) (k + 1))) := by
  obtain ⟨b, off, rfl, q0, q1, q2, q3⟩ := hE.tks k hk
  have HE := Lib.hid hE
  have HB0 := Lib.hid hb
  have HR0 := Lib.hid hrd
  have HRl := Lib.hid (lt_of_block hrd)
  have HRb := Lib.hid (show b ≠ R from fun e => by have h1 := cell_lt' q0; have h2 := hE.low; simp only at h1; omega)
  have d0 : w.cell? ⟨R, 0, none⟩ = some (.slice (some ⟨b, off, none⟩) l.length c) := cell_of hrd rfl
  have d1 : w.cell? ⟨R, 1, none⟩ = some (.int .i64 (k : Int)) := cell_of hrd rfl
  have c0 := (hb.cell (p := ⟨b, off + k * 4, none⟩) (cell_lt' q0)).trans q0
  have c1 := (hb.cell (p := ⟨b, off + k * 4 + 1, none⟩) (cell_lt' q1)).trans q1
  have c2 := (hb.cell (p := ⟨b, off + k * 4 + 2, none⟩) (cell_lt' q2)).trans q2
  have c3 := (hb.cell (p := ⟨b, off + k * 4 + 3, none⟩) (cell_lt' q3)).trans q3
  have hn9 := hE.len
  have hcap := hE.cap
  clear q0 q1 q2 q3
  have htx : (l[k]).text.length ≤ 140737488351232 := hE.txt _ (List.getElem_mem hk)
  generalize l[k] = t at *
  obtain ⟨tk, tx, tv, tp⟩ := t
  dsimp only at *

  obtain ⟨n, hn⟩ : ∃ n, l.length = n := ⟨_, rfl⟩
  rw [hn] at hk hrd HR0 hn9 hcap d0 
  rw [hn]
  have HN := Lib.hid hn
  clear hn
  have X0 := Lib.hid d0
  have X1 := Lib.hid d1
  have Y0 := Lib.hid c0
  have Y1 := Lib.hid c1
  have Y2 := Lib.hid c2
  have Y3 := Lib.hid c3
  clear c0 c1 c2 c3 hE hb hrd
  subst h1
  have hkn : (k : Int) < (n : Int) := by omega
  have hkc : k < n := hk
  have hk0 : (0 : Int) ≤ (k : Int) := by omega
  have hge : ¬ (n : Int) ≤ (k : Int) := by omega
  have hge2 : ¬ n ≤ k := by omega
  have hRl := HRl.out
  go_enter Tryz.func91, Tryz.ntmps91
  go_wp2
  go_quiet (fail)
  go_wp2
  obtain ⟨w1, hw1⟩ : ∃ W, W = World.drewN (w.alloc (.cells #[.int .i64 0, .int .i64 0, .string { data := #[] }, .int .i64 0, .slice none 0 0] 25)) nq := ⟨_, rfl⟩
  have HX1 := Lib.hid (show Ext w w1 by rw [hw1]; exact Ext.drewN' (ext_alloc w _))
  have HZ1 := Lib.hid (show w1.heap[w.heap.size]? = some (.cells #[.int .i64 0, .int .i64 0, .string { data := #[] }, .int .i64 0, .slice none 0 0] 25) by rw [hw1]; exact alloc_here w _)
  change Code.wp _ _ _ _ (World.drewN (w.alloc (.cells #[.int .i64 0, .int .i64 0, .string { data := #[] }, .int .i64 0, .slice none 0 0] 25)) nq)
  rw [← hw1]
  clear hw1 d0 d1
  replace X0 := Lib.hid (Ext.cellE X0.out HX1.out)
  replace X1 := Lib.hid (Ext.cellE X1.out HX1.out)
  replace Y0 := Lib.hid (Ext.cellE Y0.out HX1.out)
  replace Y1 := Lib.hid (Ext.cellE Y1.out HX1.out)
  replace Y2 := Lib.hid (Ext.cellE Y2.out HX1.out)
  replace Y3 := Lib.hid (Ext.cellE Y3.out HX1.out)
  refine wp_region_tail (l1 := [_, _, _, _, _, _, _, _, _, _, _]) (l2 := [_]) (by kernel_rfl) Ext (fun W => Below.refl _ W) (fun W => show Below W.heap.size W { W with drawn := W.drawn + 1 } from ⟨rfl, rfl, rfl, Nat.le_refl _, fun _ _ => rfl⟩) Ext.trans
    (fun i s W => match i with
      | 0 => s 0 = .pointer (some ⟨R, 0, none⟩)
      | 1 => s 1 = .pointer (some ⟨R, 0, none⟩)
      | 2 => s 2 = .pointer (some ⟨R, 0, none⟩)
      | 3 => s 3 = .slice (some ⟨b, off, none⟩) n c
      | 4 => s 4 = .pointer (some ⟨R, 0, none⟩)
      | 5 => s 5 = .pointer (some ⟨R, 0, none⟩)
      | 6 => s 6 = .pointer (some ⟨R, 1, none⟩)
      | 7 => s 7 = .int .i64 (k : Int)
      | 8 => s 8 = .pointer (some ⟨b, off + k * 4, none⟩)
      | 9 => s 9 = .agg #[.int .i64 (2), sV tx, .int .i64 tv, .int .i64 tp]
      | 10 => ∃ g, s 10 = .pointer (some ⟨g, 0, none⟩) ∧ w1.heap.size ≤ g ∧ W.heap[g]? = some (.cells #[.int .i64 0, .string { data := #[] }, .int .i64 0, .int .i64 0] 36)
      | _ => True)
    (fun i => [i])
    (by
      intro i s s' W W' h hs hE
      have hs := hs i (by simp)
      match i, h, hs with
      | 0, h, hs => exact hs.trans h
      | 1, h, hs => exact hs.trans h
      | 2, h, hs => exact hs.trans h
      | 3, h, hs => exact hs.trans h
      | 4, h, hs => exact hs.trans h
      | 5, h, hs => exact hs.trans h
      | 6, h, hs => exact hs.trans h
      | 7, h, hs => exact hs.trans h
      | 8, h, hs => exact hs.trans h
      | 9, h, hs => exact hs.trans h
      | 10, ⟨g, h1, h2, h3⟩, hs => exact ⟨g, hs.trans h1, h2, (hE.below.block _ (lt_of_block h3)).trans h3⟩
      | i + 11, h, hs => exact trivial)
    (by kernel_rfl) (by kernel_rfl) (by kernel_rfl) 128 rfl (by kernel_rfl) (by kernel_rfl) ?_ ?_
  · intro i op ho a' W hA
    have x0 := Ext.cellE X0.out hA.rel
    have x1 := Ext.cellE X1.out hA.rel
    have y0 := Ext.cellE Y0.out hA.rel
    have y1 := Ext.cellE Y1.out hA.rel
    have y2 := Ext.cellE Y2.out hA.rel
    have y3 := Ext.cellE Y3.out hA.rel
    match i, ho with
    | 0, ho =>
      obtain rfl := Option.some.inj ho
      have e1 : a'.eval (.tmp 0) = .pointer (some ⟨R, 0, none⟩) := hA.keep 0 (by kernel_rfl)
      refine GoesG.value (.pointer (some ⟨R, 0, none⟩)) rfl ?_ (Below.refl _ _) (fun s h1 h2 => h1 rfl)
      simp only [execOp, e1]
      simp [go_sem, x0, x1, y0, y1, y2, y3, hkc, hkn, hk0]
    | 1, ho =>
      obtain rfl := Option.some.inj ho
      have e1 : a'.eval (.tmp 21) = .pointer (some ⟨R, 0, none⟩) := (sv_dst (l := _) rfl).symm.trans (hA.new 0 (by decide) (by kernel_rfl))
      refine GoesG.value (.pointer (some ⟨R, 0, none⟩)) rfl ?_ (Below.refl _ _) (fun s h1 h2 => h1 rfl)
      simp only [execOp, e1]
      simp [go_sem, x0, x1, y0, y1, y2, y3, hkc, hkn, hk0]
    | 2, ho =>
      obtain rfl := Option.some.inj ho
      have e1 : a'.eval (.tmp 22) = .pointer (some ⟨R, 0, none⟩) := (sv_dst (l := _) rfl).symm.trans (hA.new 1 (by decide) (by kernel_rfl))
      refine GoesG.value (.pointer (some ⟨R, 0, none⟩)) rfl ?_ (Below.refl _ _) (fun s h1 h2 => h1 rfl)
      simp only [execOp, e1]
      simp [go_sem, x0, x1, y0, y1, y2, y3, hkc, hkn, hk0]
    | 3, ho =>
      obtain rfl := Option.some.inj ho
      have e1 : a'.eval (.tmp 23) = .pointer (some ⟨R, 0, none⟩) := (sv_dst (l := _) rfl).symm.trans (hA.new 2 (by decide) (by kernel_rfl))
      refine GoesG.value (.slice (some ⟨b, off, none⟩) n c) rfl ?_ (Below.refl _ _) (fun s h1 h2 => h1 rfl)
      simp only [execOp, e1]
      simp [go_sem, x0, x1, y0, y1, y2, y3, hkc, hkn, hk0]
    | 4, ho =>
      obtain rfl := Option.some.inj ho
      have e1 : a'.eval (.tmp 0) = .pointer (some ⟨R, 0, none⟩) := hA.keep 0 (by kernel_rfl)
      refine GoesG.value (.pointer (some ⟨R, 0, none⟩)) rfl ?_ (Below.refl _ _) (fun s h1 h2 => h1 rfl)
      simp only [execOp, e1]
      simp [go_sem, x0, x1, y0, y1, y2, y3, hkc, hkn, hk0]
    | 5, ho =>
      obtain rfl := Option.some.inj ho
      have e1 : a'.eval (.tmp 25) = .pointer (some ⟨R, 0, none⟩) := (sv_dst (l := _) rfl).symm.trans (hA.new 4 (by decide) (by kernel_rfl))
      refine GoesG.value (.pointer (some ⟨R, 0, none⟩)) rfl ?_ (Below.refl _ _) (fun s h1 h2 => h1 rfl)
      simp only [execOp, e1]
      simp [go_sem, x0, x1, y0, y1, y2, y3, hkc, hkn, hk0]
    | 6, ho =>
      obtain rfl := Option.some.inj ho
      have e1 : a'.eval (.tmp 26) = .pointer (some ⟨R, 0, none⟩) := (sv_dst (l := _) rfl).symm.trans (hA.new 5 (by decide) (by kernel_rfl))
      refine GoesG.value (.pointer (some ⟨R, 1, none⟩)) rfl ?_ (Below.refl _ _) (fun s h1 h2 => h1 rfl)
      simp only [execOp, e1]
      simp [go_sem, x0, x1, y0, y1, y2, y3, hkc, hkn, hk0]
    | 7, ho =>
      obtain rfl := Option.some.inj ho
      have e1 : a'.eval (.tmp 27) = .pointer (some ⟨R, 1, none⟩) := (sv_dst (l := _) rfl).symm.trans (hA.new 6 (by decide) (by kernel_rfl))
      refine GoesG.value (.int .i64 (k : Int)) rfl ?_ (Below.refl _ _) (fun s h1 h2 => h1 rfl)
      simp only [execOp, e1]
      simp [go_sem, x0, x1, y0, y1, y2, y3, hkc, hkn, hk0]
    | 8, ho =>
      obtain rfl := Option.some.inj ho
      have e1 : a'.eval (.tmp 24) = .slice (some ⟨b, off, none⟩) n c := (sv_dst (l := _) rfl).symm.trans (hA.new 3 (by decide) (by kernel_rfl))
      have e2 : a'.eval (.tmp 28) = .int .i64 (k : Int) := (sv_dst (l := _) rfl).symm.trans (hA.new 7 (by decide) (by kernel_rfl))
      refine GoesG.value (.pointer (some ⟨b, off + k * 4, none⟩)) rfl ?_ (Below.refl _ _) (fun s h1 h2 => h1 rfl)
      simp only [execOp, e1, e2]
      simp [go_sem, x0, x1, y0, y1, y2, y3, hkc, hkn, hk0]
    | 9, ho =>
      obtain rfl := Option.some.inj ho
      have e1 : a'.eval (.tmp 29) = .pointer (some ⟨b, off + k * 4, none⟩) := (sv_dst (l := _) rfl).symm.trans (hA.new 8 (by decide) (by kernel_rfl))
      refine GoesG.value (.agg #[.int .i64 (2), sV tx, .int .i64 tv, .int .i64 tp]) rfl ?_ (Below.refl _ _) (fun s h1 h2 => h1 rfl)
      simp only [execOp, e1]
      simp [go_sem, x0, x1, y0, y1, y2, y3, hkc, hkn, hk0]
    | 10, ho =>
      obtain rfl := Option.some.inj ho
      refine GoesG.value (.pointer (some ⟨W.heap.size, 0, none⟩)) (W' := W.alloc (.cells #[.int .i64 0, .string { data := #[] }, .int .i64 0, .int .i64 0] 36)) rfl ?_ (ext_alloc _ _) (fun s h1 h2 => ⟨W.heap.size, h1 rfl, hA.rel.size, alloc_here _ _⟩)
      simp only [execOp]
      simp [go_sem, sB_nil]
    | i + 11, ho => cases ho
  · intro vs w4 hvs hG hΦ
    obtain ⟨z0, z1, z2, z3, z4, z5, z6, z7, z8, z9, z10, rfl⟩ : ∃ z0 z1 z2 z3 z4 z5 z6 z7 z8 z9 z10, vs = z0 :: z1 :: z2 :: z3 :: z4 :: z5 :: z6 :: z7 :: z8 :: z9 :: z10 :: [] := by
      match vs, hvs with
      | y0 :: y1 :: y2 :: y3 :: y4 :: y5 :: y6 :: y7 :: y8 :: y9 :: y10 :: [], _ => exact ⟨y0, y1, y2, y3, y4, y5, y6, y7, y8, y9, y10, rfl⟩
    have e0 : z0 = .pointer (some ⟨R, 0, none⟩) := hΦ 0 (by decide)
    subst e0
    have e1 : z1 = .pointer (some ⟨R, 0, none⟩) := hΦ 1 (by decide)
    subst e1
    have e2 : z2 = .pointer (some ⟨R, 0, none⟩) := hΦ 2 (by decide)
    subst e2
    have e3 : z3 = .slice (some ⟨b, off, none⟩) n c := hΦ 3 (by decide)
    subst e3
    have e4 : z4 = .pointer (some ⟨R, 0, none⟩) := hΦ 4 (by decide)
    subst e4
    have e5 : z5 = .pointer (some ⟨R, 0, none⟩) := hΦ 5 (by decide)
    subst e5
    have e6 : z6 = .pointer (some ⟨R, 1, none⟩) := hΦ 6 (by decide)
    subst e6
    have e7 : z7 = .int .i64 (k : Int) := hΦ 7 (by decide)
    subst e7
    have e8 : z8 = .pointer (some ⟨b, off + k * 4, none⟩) := hΦ 8 (by decide)
    subst e8
    have e9 : z9 = .agg #[.int .i64 (2), sV tx, .int .i64 tv, .int .i64 tp] := hΦ 9 (by decide)
    subst e9
    have p10 : ∃ g, z10 = .pointer (some ⟨g, 0, none⟩) ∧ w1.heap.size ≤ g ∧ w4.heap[g]? = some (.cells #[.int .i64 0, .string { data := #[] }, .int .i64 0, .int .i64 0] 36) := hΦ 10 (by decide)
    clear hΦ hvs
    simp only [putAll, Act.put, List.setIfInBounds_toArray, List.set_cons_succ, List.set_cons_zero]
    obtain ⟨g, rfl, hg1, hg2⟩ := p10
    have e0 := cell_of (i := 0) hg2 rfl
    have e1 := cell_of (i := 1) hg2 rfl
    have e2 := cell_of (i := 2) hg2 rfl
    have e3 := cell_of (i := 3) hg2 rfl
    have f0 : ∀ i, w4.frozen? ⟨g, i, none⟩ = false := fun i => free_of hg2
    have HG2 := Lib.hid hg2
    have HG1 := Lib.hid hg1
    have HG := Lib.hid hG
    clear hg1 hg2 hG
    go_upto_region 4 with fail
    obtain ⟨w5, hw5, hg5, hB5, hO5⟩ := put4 HG2.out rfl (.int .i64 (2)) (sV tx) (.int .i64 tv) (.int .i64 tp)
    rw [hw5]
    have HX5 := Lib.hid (show Ext w w5 from Below.trans (Below.trans HX1.out (HG.out.below.mono HX1.out.size)) (hB5 _ (Nat.le_trans HX1.out.size HG1.out)))
    have HBN := Lib.hid (show w.heap.size < g from Nat.lt_of_lt_of_le (lt_of_block HZ1.out) HG1.out)
    have hr5 : w5.heap[R]? = some (rdO (some ⟨b, off, none⟩) n c k) := (HX5.out.below.block _ HRl.out).trans HR0.out
    have HZ5 := Lib.hid (show w5.heap[w.heap.size]? = some (.cells #[.int .i64 0, .int .i64 0, .string { data := #[] }, .int .i64 0, .slice none 0 0] 25) from (hO5 _ (by have := HBN.out; omega)).trans ((HG.out.below.block _ (lt_of_block HZ1.out)).trans HZ1.out))
    have HG5 := Lib.hid hg5
    have HR5 := Lib.hid hr5
    have d0 : w5.cell? ⟨R, 0, none⟩ = some (.slice (some ⟨b, off, none⟩) n c) := cell_of hr5 rfl
    have d1 : w5.cell? ⟨R, 1, none⟩ = some (.int .i64 (k : Int)) := cell_of hr5 rfl
    have g0 : ∀ i, w5.frozen? ⟨R, i, none⟩ = false := fun i => free_of hr5
    clear hw5 hg5 hB5 hO5 hr5 e0 e1 e2 e3 f0 X0 X1 Y0 Y1 Y2 Y3 HG HG2
    go_upto_region 5 with fail
    obtain ⟨w6, hw6⟩ : ∃ W, w5.setCell ⟨R, 1, none⟩ (.int .i64 ((k : Int) + 1)) = W := ⟨_, rfl⟩
    rw [hw6]
    have HR6 := Lib.hid (show w6.heap[R]? = some (rdO (some ⟨b, off, none⟩) n c (k + 1)) from by
      have h := ((Turn.refl HR5.out).setCell (i := 1) (.int .i64 ((k : Int) + 1))).here
      rw [hw6] at h
      rw [h]; simp)
    have HO6 := Lib.hid (show Oth R w w6 from by rw [← hw6]; exact (Oth.of_ext HX5.out).trans (Oth.set R 1 _ w5))
    have HZ6 := Lib.hid (show w6.heap[w.heap.size]? = some (.cells #[.int .i64 0, .int .i64 0, .string { data := #[] }, .int .i64 0, .slice none 0 0] 25) from by rw [← hw6]; exact (Below.heap_setCell _ _ _ _ (by have := HRl.out; show w.heap.size ≠ R; omega)).trans HZ5.out)
    have hg6 : w6.heap[g]? = some (.cells #[.int .i64 (2), sV tx, .int .i64 tv, .int .i64 tp] tTk) := by rw [← hw6]; exact (Below.heap_setCell _ _ _ _ (by have := HRl.out; have := HBN.out; show g ≠ R; omega)).trans HG5.out
    have HG6 := Lib.hid hg6
    have HL6 := Lib.hid (show Below w0.heap.size w0 w6 from Below.trans HB0.out (HO6.out.below HE.out.low HB0.out.size))
    have e0 := cell_of (i := 0) hg6 rfl
    have e1 := cell_of (i := 1) hg6 rfl
    have e2 := cell_of (i := 2) hg6 rfl
    have e3 := cell_of (i := 3) hg6 rfl
    clear hw6 d0 d1 g0 HR5 HG5 HZ5 HX5 hg6 HZ1 HX1
    have hv9 : 0 ≤ tv ∧ tv ≤ 1099511627776 := by unfold numOk at h2; simp at h2; exact ⟨h2.1, h2.2.1⟩
    have KN := isNumber_any ⟨2, tx, tv, tp⟩ w6 htx (HE.out.tab.below HL6.out)
    rw [h2] at KN
    have HV := Lib.hid hv9
    clear h2 hv9
    go_wp2_with fail
    refine (show Gives _ _ _ _ _ from KN).mono ?_
    intro w7 hE
    have HR7 := Lib.hid ((hE.block _ (lt_of_block HR6.out)).trans HR6.out)
    have HZ7 := Lib.hid ((hE.block _ (lt_of_block HZ6.out)).trans HZ6.out)
    have HG7 := Lib.hid ((hE.block _ (lt_of_block HG6.out)).trans HG6.out)
    have HO7 := Lib.hid (HO6.out.trans (Oth.of_ext hE))
    have HL7 := Lib.hid (show Below w0.heap.size w0 w7 from low_ext HL6.out hE)
    clear hE e0 e1 e2 e3
    have e0 := cell_of (i := 0) HG7.out rfl
    have e1 := cell_of (i := 1) HG7.out rfl
    have e2 := cell_of (i := 2) HG7.out rfl
    have e3 := cell_of (i := 3) HG7.out rfl
    have z0 := cell_of (i := 0) HZ7.out rfl
    have z1 := cell_of (i := 1) HZ7.out rfl
    have z2 := cell_of (i := 2) HZ7.out rfl
    have z3 := cell_of (i := 3) HZ7.out rfl
    have z4 := cell_of (i := 4) HZ7.out rfl
    have zf : ∀ i, w7.frozen? ⟨w.heap.size, i, none⟩ = false := fun i => free_of HZ7.out
    go_wp2
    obtain ⟨W', hW', h3, h4, h5⟩ := put5n HZ7.out rfl (.int .i64 1) (.int .i64 0) (.string { data := #[] }) (.int .i64 tv) (.slice none 0 0)
    rw [hW']
    have z0 := cell_of (i := 0) h3 rfl
    have z1 := cell_of (i := 1) h3 rfl
    have z2 := cell_of (i := 2) h3 rfl
    have z3 := cell_of (i := 3) h3 rfl
    have z4 := cell_of (i := 4) h3 rfl
    exact bodyPost_ret (v := .agg #[.int .i64 1, .int .i64 0, .string { data := #[] }, .int .i64 tv, .slice none 0 0]) (by simp [results, Tryz.f91, go_sem, z0, z1, z2, z3, z4]) rfl ⟨none, 0, by first | rfl | (rw [sB_nil]; rfl), AtB_leaf _ _ _ (fits_num tv (by have := HV.out; omega) HV.out.2), HO7.out.then (h4 _ (Nat.le_refl _)), (h5 R (by have := HRl.out; omega)).trans HR7.out⟩

set_option maxRecDepth 100000 in
set_option maxHeartbeats 8000000 in
theorem operand_nam {w0 : World} {R : Nat} {p : Option Addr} {c : Nat} {l : List Tk} (hE : RdE w0 R p c l) (k : Nat) (hk : k < l.length) (h1 : l[k].kind = 1) (h2 : namOk l[k] = true) (w : World) (hb : Below w0.heap.size w0 w) (hrd : w.heap[R]? = some (rdO p l.length c k)) :
    Calls Tryz.prog 91 #[.pointer (some ⟨R, 0, none⟩)] w (Got R p l.length c w (.ok (namX l[k].text) (k + 1))) := by
  obtain ⟨b, off, rfl, q0, q1, q2, q3⟩ := hE.tks k hk
  have HE := Lib.hid hE
  have HB0 := Lib.hid hb
  have HR0 := Lib.hid hrd
  have HRl := Lib.hid (lt_of_block hrd)
  have HRb := Lib.hid (show b ≠ R from fun e => by have h1 := cell_lt' q0; have h2 := hE.low; simp only at h1; omega)
  have d0 : w.cell? ⟨R, 0, none⟩ = some (.slice (some ⟨b, off, none⟩) l.length c) := cell_of hrd rfl
  have d1 : w.cell? ⟨R, 1, none⟩ = some (.int .i64 (k : Int)) := cell_of hrd rfl
  have c0 := (hb.cell (p := ⟨b, off + k * 4, none⟩) (cell_lt' q0)).trans q0
  have c1 := (hb.cell (p := ⟨b, off + k * 4 + 1, none⟩) (cell_lt' q1)).trans q1
  have c2 := (hb.cell (p := ⟨b, off + k * 4 + 2, none⟩) (cell_lt' q2)).trans q2
  have c3 := (hb.cell (p := ⟨b, off + k * 4 + 3, none⟩) (cell_lt' q3)).trans q3
  have hn9 := hE.len
  have hcap := hE.cap
  clear q0 q1 q2 q3
  have htx : (l[k]).text.length ≤ 140737488351232 := hE.txt _ (List.getElem_mem hk)
  generalize l[k] = t at *
  obtain ⟨tk, tx, tv, tp⟩ := t
  dsimp only at *

  obtain ⟨n, hn⟩ : ∃ n, l.length = n := ⟨_, rfl⟩
  rw [hn] at hk hrd HR0 hn9 hcap d0 
  rw [hn]
  have HN := Lib.hid hn
  clear hn
  have X0 := Lib.hid d0
  have X1 := Lib.hid d1
  have Y0 := Lib.hid c0
  have Y1 := Lib.hid c1
  have Y2 := Lib.hid c2
  have Y3 := Lib.hid c3
  clear c0 c1 c2 c3 hE hb hrd
  subst h1
  have hkn : (k : Int) < (n : Int) := by omega
  have hkc : k < n := hk
  have hk0 : (0 : Int) ≤ (k : Int) := by omega
  have hge : ¬ (n : Int) ≤ (k : Int) := by omega
  have hge2 : ¬ n ≤ k := by omega
  have hRl := HRl.out
  go_enter Tryz.func91, Tryz.ntmps91
  go_wp2
  go_quiet (fail)
  go_wp2
  obtain ⟨w1, hw1⟩ : ∃ W, W = World.drewN (w.alloc (.cells #[.int .i64 0, .int .i64 0, .string { data := #[] }, .int .i64 0, .slice none 0 0] 25)) nq := ⟨_, rfl⟩
  have HX1 := Lib.hid (show Ext w w1 by rw [hw1]; exact Ext.drewN' (ext_alloc w _))
  have HZ1 := Lib.hid (show w1.heap[w.heap.size]? = some (.cells #[.int .i64 0, .int .i64 0, .string { data := #[] }, .int .i64 0, .slice none 0 0] 25) by rw [hw1]; exact alloc_here w _)
  change Code.wp _ _ _ _ (World.drewN (w.alloc (.cells #[.int .i64 0, .int .i64 0, .string { data := #[] }, .int .i64 0, .slice none 0 0] 25)) nq)
  rw [← hw1]
  clear hw1 d0 d1
  replace X0 := Lib.hid (Ext.cellE X0.out HX1.out)
  replace X1 := Lib.hid (Ext.cellE X1.out HX1.out)
  replace Y0 := Lib.hid (Ext.cellE Y0.out HX1.out)
  replace Y1 := Lib.hid (Ext.cellE Y1.out HX1.out)
  replace Y2 := Lib.hid (Ext.cellE Y2.out HX1.out)
  replace Y3 := Lib.hid (Ext.cellE Y3.out HX1.out)
  refine wp_region_tail (l1 := [_, _, _, _, _, _, _, _, _, _, _]) (l2 := [_]) (by kernel_rfl) Ext (fun W => Below.refl _ W) (fun W => show Below W.heap.size W { W with drawn := W.drawn + 1 } from ⟨rfl, rfl, rfl, Nat.le_refl _, fun _ _ => rfl⟩) Ext.trans
    (fun i s W => match i with
      | 0 => s 0 = .pointer (some ⟨R, 0, none⟩)
      | 1 => s 1 = .pointer (some ⟨R, 0, none⟩)
      | 2 => s 2 = .pointer (some ⟨R, 0, none⟩)
      | 3 => s 3 = .slice (some ⟨b, off, none⟩) n c
      | 4 => s 4 = .pointer (some ⟨R, 0, none⟩)
      | 5 => s 5 = .pointer (some ⟨R, 0, none⟩)
      | 6 => s 6 = .pointer (some ⟨R, 1, none⟩)
      | 7 => s 7 = .int .i64 (k : Int)
      | 8 => s 8 = .pointer (some ⟨b, off + k * 4, none⟩)
      | 9 => s 9 = .agg #[.int .i64 (1), sV tx, .int .i64 tv, .int .i64 tp]
      | 10 => ∃ g, s 10 = .pointer (some ⟨g, 0, none⟩) ∧ w1.heap.size ≤ g ∧ W.heap[g]? = some (.cells #[.int .i64 0, .string { data := #[] }, .int .i64 0, .int .i64 0] 36)
      | _ => True)
    (fun i => [i])
    (by
      intro i s s' W W' h hs hE
      have hs := hs i (by simp)
      match i, h, hs with
      | 0, h, hs => exact hs.trans h
      | 1, h, hs => exact hs.trans h
      | 2, h, hs => exact hs.trans h
      | 3, h, hs => exact hs.trans h
      | 4, h, hs => exact hs.trans h
      | 5, h, hs => exact hs.trans h
      | 6, h, hs => exact hs.trans h
      | 7, h, hs => exact hs.trans h
      | 8, h, hs => exact hs.trans h
      | 9, h, hs => exact hs.trans h
      | 10, ⟨g, h1, h2, h3⟩, hs => exact ⟨g, hs.trans h1, h2, (hE.below.block _ (lt_of_block h3)).trans h3⟩
      | i + 11, h, hs => exact trivial)
    (by kernel_rfl) (by kernel_rfl) (by kernel_rfl) 128 rfl (by kernel_rfl) (by kernel_rfl) ?_ ?_
  · intro i op ho a' W hA
    have x0 := Ext.cellE X0.out hA.rel
    have x1 := Ext.cellE X1.out hA.rel
    have y0 := Ext.cellE Y0.out hA.rel
    have y1 := Ext.cellE Y1.out hA.rel
    have y2 := Ext.cellE Y2.out hA.rel
    have y3 := Ext.cellE Y3.out hA.rel
    match i, ho with
    | 0, ho =>
      obtain rfl := Option.some.inj ho
      have e1 : a'.eval (.tmp 0) = .pointer (some ⟨R, 0, none⟩) := hA.keep 0 (by kernel_rfl)
      refine GoesG.value (.pointer (some ⟨R, 0, none⟩)) rfl ?_ (Below.refl _ _) (fun s h1 h2 => h1 rfl)
      simp only [execOp, e1]
      simp [go_sem, x0, x1, y0, y1, y2, y3, hkc, hkn, hk0]
    | 1, ho =>
      obtain rfl := Option.some.inj ho
      have e1 : a'.eval (.tmp 21) = .pointer (some ⟨R, 0, none⟩) := (sv_dst (l := _) rfl).symm.trans (hA.new 0 (by decide) (by kernel_rfl))
      refine GoesG.value (.pointer (some ⟨R, 0, none⟩)) rfl ?_ (Below.refl _ _) (fun s h1 h2 => h1 rfl)
      simp only [execOp, e1]
      simp [go_sem, x0, x1, y0, y1, y2, y3, hkc, hkn, hk0]
    | 2, ho =>
      obtain rfl := Option.some.inj ho
      have e1 : a'.eval (.tmp 22) = .pointer (some ⟨R, 0, none⟩) := (sv_dst (l := _) rfl).symm.trans (hA.new 1 (by decide) (by kernel_rfl))
      refine GoesG.value (.pointer (some ⟨R, 0, none⟩)) rfl ?_ (Below.refl _ _) (fun s h1 h2 => h1 rfl)
      simp only [execOp, e1]
      simp [go_sem, x0, x1, y0, y1, y2, y3, hkc, hkn, hk0]
    | 3, ho =>
      obtain rfl := Option.some.inj ho
      have e1 : a'.eval (.tmp 23) = .pointer (some ⟨R, 0, none⟩) := (sv_dst (l := _) rfl).symm.trans (hA.new 2 (by decide) (by kernel_rfl))
      refine GoesG.value (.slice (some ⟨b, off, none⟩) n c) rfl ?_ (Below.refl _ _) (fun s h1 h2 => h1 rfl)
      simp only [execOp, e1]
      simp [go_sem, x0, x1, y0, y1, y2, y3, hkc, hkn, hk0]
    | 4, ho =>
      obtain rfl := Option.some.inj ho
      have e1 : a'.eval (.tmp 0) = .pointer (some ⟨R, 0, none⟩) := hA.keep 0 (by kernel_rfl)
      refine GoesG.value (.pointer (some ⟨R, 0, none⟩)) rfl ?_ (Below.refl _ _) (fun s h1 h2 => h1 rfl)
      simp only [execOp, e1]
      simp [go_sem, x0, x1, y0, y1, y2, y3, hkc, hkn, hk0]
    | 5, ho =>
      obtain rfl := Option.some.inj ho
      have e1 : a'.eval (.tmp 25) = .pointer (some ⟨R, 0, none⟩) := (sv_dst (l := _) rfl).symm.trans (hA.new 4 (by decide) (by kernel_rfl))
      refine GoesG.value (.pointer (some ⟨R, 0, none⟩)) rfl ?_ (Below.refl _ _) (fun s h1 h2 => h1 rfl)
      simp only [execOp, e1]
      simp [go_sem, x0, x1, y0, y1, y2, y3, hkc, hkn, hk0]
    | 6, ho =>
      obtain rfl := Option.some.inj ho
      have e1 : a'.eval (.tmp 26) = .pointer (some ⟨R, 0, none⟩) := (sv_dst (l := _) rfl).symm.trans (hA.new 5 (by decide) (by kernel_rfl))
      refine GoesG.value (.pointer (some ⟨R, 1, none⟩)) rfl ?_ (Below.refl _ _) (fun s h1 h2 => h1 rfl)
      simp only [execOp, e1]
      simp [go_sem, x0, x1, y0, y1, y2, y3, hkc, hkn, hk0]
    | 7, ho =>
      obtain rfl := Option.some.inj ho
      have e1 : a'.eval (.tmp 27) = .pointer (some ⟨R, 1, none⟩) := (sv_dst (l := _) rfl).symm.trans (hA.new 6 (by decide) (by kernel_rfl))
      refine GoesG.value (.int .i64 (k : Int)) rfl ?_ (Below.refl _ _) (fun s h1 h2 => h1 rfl)
      simp only [execOp, e1]
      simp [go_sem, x0, x1, y0, y1, y2, y3, hkc, hkn, hk0]
    | 8, ho =>
      obtain rfl := Option.some.inj ho
      have e1 : a'.eval (.tmp 24) = .slice (some ⟨b, off, none⟩) n c := (sv_dst (l := _) rfl).symm.trans (hA.new 3 (by decide) (by kernel_rfl))
      have e2 : a'.eval (.tmp 28) = .int .i64 (k : Int) := (sv_dst (l := _) rfl).symm.trans (hA.new 7 (by decide) (by kernel_rfl))
      refine GoesG.value (.pointer (some ⟨b, off + k * 4, none⟩)) rfl ?_ (Below.refl _ _) (fun s h1 h2 => h1 rfl)
      simp only [execOp, e1, e2]
      simp [go_sem, x0, x1, y0, y1, y2, y3, hkc, hkn, hk0]
    | 9, ho =>
      obtain rfl := Option.some.inj ho
      have e1 : a'.eval (.tmp 29) = .pointer (some ⟨b, off + k * 4, none⟩) := (sv_dst (l := _) rfl).symm.trans (hA.new 8 (by decide) (by kernel_rfl))
      refine GoesG.value (.agg #[.int .i64 (1), sV tx, .int .i64 tv, .int .i64 tp]) rfl ?_ (Below.refl _ _) (fun s h1 h2 => h1 rfl)
      simp only [execOp, e1]
      simp [go_sem, x0, x1, y0, y1, y2, y3, hkc, hkn, hk0]
    | 10, ho =>
      obtain rfl := Option.some.inj ho
      refine GoesG.value (.pointer (some ⟨W.heap.size, 0, none⟩)) (W' := W.alloc (.cells #[.int .i64 0, .string { data := #[] }, .int .i64 0, .int .i64 0] 36)) rfl ?_ (ext_alloc _ _) (fun s h1 h2 => ⟨W.heap.size, h1 rfl, hA.rel.size, alloc_here _ _⟩)
      simp only [execOp]
      simp [go_sem, sB_nil]
    | i + 11, ho => cases ho
  · intro vs w4 hvs hG hΦ
    obtain ⟨z0, z1, z2, z3, z4, z5, z6, z7, z8, z9, z10, rfl⟩ : ∃ z0 z1 z2 z3 z4 z5 z6 z7 z8 z9 z10, vs = z0 :: z1 :: z2 :: z3 :: z4 :: z5 :: z6 :: z7 :: z8 :: z9 :: z10 :: [] := by
      match vs, hvs with
      | y0 :: y1 :: y2 :: y3 :: y4 :: y5 :: y6 :: y7 :: y8 :: y9 :: y10 :: [], _ => exact ⟨y0, y1, y2, y3, y4, y5, y6, y7, y8, y9, y10, rfl⟩
    have e0 : z0 = .pointer (some ⟨R, 0, none⟩) := hΦ 0 (by decide)
    subst e0
    have e1 : z1 = .pointer (some ⟨R, 0, none⟩) := hΦ 1 (by decide)
    subst e1
    have e2 : z2 = .pointer (some ⟨R, 0, none⟩) := hΦ 2 (by decide)
    subst e2
    have e3 : z3 = .slice (some ⟨b, off, none⟩) n c := hΦ 3 (by decide)
    subst e3
    have e4 : z4 = .pointer (some ⟨R, 0, none⟩) := hΦ 4 (by decide)
    subst e4
    have e5 : z5 = .pointer (some ⟨R, 0, none⟩) := hΦ 5 (by decide)
    subst e5
    have e6 : z6 = .pointer (some ⟨R, 1, none⟩) := hΦ 6 (by decide)
    subst e6
    have e7 : z7 = .int .i64 (k : Int) := hΦ 7 (by decide)
    subst e7
    have e8 : z8 = .pointer (some ⟨b, off + k * 4, none⟩) := hΦ 8 (by decide)
    subst e8
    have e9 : z9 = .agg #[.int .i64 (1), sV tx, .int .i64 tv, .int .i64 tp] := hΦ 9 (by decide)
    subst e9
    have p10 : ∃ g, z10 = .pointer (some ⟨g, 0, none⟩) ∧ w1.heap.size ≤ g ∧ w4.heap[g]? = some (.cells #[.int .i64 0, .string { data := #[] }, .int .i64 0, .int .i64 0] 36) := hΦ 10 (by decide)
    clear hΦ hvs
    simp only [putAll, Act.put, List.setIfInBounds_toArray, List.set_cons_succ, List.set_cons_zero]
    obtain ⟨g, rfl, hg1, hg2⟩ := p10
    have e0 := cell_of (i := 0) hg2 rfl
    have e1 := cell_of (i := 1) hg2 rfl
    have e2 := cell_of (i := 2) hg2 rfl
    have e3 := cell_of (i := 3) hg2 rfl
    have f0 : ∀ i, w4.frozen? ⟨g, i, none⟩ = false := fun i => free_of hg2
    have HG2 := Lib.hid hg2
    have HG1 := Lib.hid hg1
    have HG := Lib.hid hG
    clear hg1 hg2 hG
    go_upto_region 4 with fail
    obtain ⟨w5, hw5, hg5, hB5, hO5⟩ := put4 HG2.out rfl (.int .i64 (1)) (sV tx) (.int .i64 tv) (.int .i64 tp)
    rw [hw5]
    have HX5 := Lib.hid (show Ext w w5 from Below.trans (Below.trans HX1.out (HG.out.below.mono HX1.out.size)) (hB5 _ (Nat.le_trans HX1.out.size HG1.out)))
    have HBN := Lib.hid (show w.heap.size < g from Nat.lt_of_lt_of_le (lt_of_block HZ1.out) HG1.out)
    have hr5 : w5.heap[R]? = some (rdO (some ⟨b, off, none⟩) n c k) := (HX5.out.below.block _ HRl.out).trans HR0.out
    have HZ5 := Lib.hid (show w5.heap[w.heap.size]? = some (.cells #[.int .i64 0, .int .i64 0, .string { data := #[] }, .int .i64 0, .slice none 0 0] 25) from (hO5 _ (by have := HBN.out; omega)).trans ((HG.out.below.block _ (lt_of_block HZ1.out)).trans HZ1.out))
    have HG5 := Lib.hid hg5
    have HR5 := Lib.hid hr5
    have d0 : w5.cell? ⟨R, 0, none⟩ = some (.slice (some ⟨b, off, none⟩) n c) := cell_of hr5 rfl
    have d1 : w5.cell? ⟨R, 1, none⟩ = some (.int .i64 (k : Int)) := cell_of hr5 rfl
    have g0 : ∀ i, w5.frozen? ⟨R, i, none⟩ = false := fun i => free_of hr5
    clear hw5 hg5 hB5 hO5 hr5 e0 e1 e2 e3 f0 X0 X1 Y0 Y1 Y2 Y3 HG HG2
    go_upto_region 5 with fail
    obtain ⟨w6, hw6⟩ : ∃ W, w5.setCell ⟨R, 1, none⟩ (.int .i64 ((k : Int) + 1)) = W := ⟨_, rfl⟩
    rw [hw6]
    have HR6 := Lib.hid (show w6.heap[R]? = some (rdO (some ⟨b, off, none⟩) n c (k + 1)) from by
      have h := ((Turn.refl HR5.out).setCell (i := 1) (.int .i64 ((k : Int) + 1))).here
      rw [hw6] at h
      rw [h]; simp)
    have HO6 := Lib.hid (show Oth R w w6 from by rw [← hw6]; exact (Oth.of_ext HX5.out).trans (Oth.set R 1 _ w5))
    have HZ6 := Lib.hid (show w6.heap[w.heap.size]? = some (.cells #[.int .i64 0, .int .i64 0, .string { data := #[] }, .int .i64 0, .slice none 0 0] 25) from by rw [← hw6]; exact (Below.heap_setCell _ _ _ _ (by have := HRl.out; show w.heap.size ≠ R; omega)).trans HZ5.out)
    have hg6 : w6.heap[g]? = some (.cells #[.int .i64 (1), sV tx, .int .i64 tv, .int .i64 tp] tTk) := by rw [← hw6]; exact (Below.heap_setCell _ _ _ _ (by have := HRl.out; have := HBN.out; show g ≠ R; omega)).trans HG5.out
    have HG6 := Lib.hid hg6
    have HL6 := Lib.hid (show Below w0.heap.size w0 w6 from Below.trans HB0.out (HO6.out.below HE.out.low HB0.out.size))
    have e0 := cell_of (i := 0) hg6 rfl
    have e1 := cell_of (i := 1) hg6 rfl
    have e2 := cell_of (i := 2) hg6 rfl
    have e3 := cell_of (i := 3) hg6 rfl
    clear hw6 d0 d1 g0 HR5 HG5 HZ5 HX5 hg6 HZ1 HX1
    obtain ⟨h3, h4⟩ : isNm tx = true ∧ kwB tx = false := by unfold namOk at h2; simpa using h2
    have KK := Lib.hid (fun W (hW : Below w0.heap.size w0 W) => Keyword_any tx W htx (HE.out.max.ext hW))
    rw [h4] at KK
    have KC := Lib.hid (fun W => (show Gives Tryz.prog 36 #[.agg #[.int .i64 2, .int .i64 0, sV tx, .int .i64 0, .slice none 0 0]] W (.int .i64 0) from by
      have := Check_any (namX tx) none 0 W (AtB_leaf (fun _ => True) W none (fits_nam htx)).at
      rw [chk_nam, h3] at this
      exact this))
    clear h2 h3 h4
    go_wp2_with fail
    refine (KK.out _ HL6.out).mono ?_
    intro w7 hE
    have HR7 := Lib.hid ((hE.block _ (lt_of_block HR6.out)).trans HR6.out)
    have HZ7 := Lib.hid ((hE.block _ (lt_of_block HZ6.out)).trans HZ6.out)
    have HG7 := Lib.hid ((hE.block _ (lt_of_block HG6.out)).trans HG6.out)
    have HO7 := Lib.hid (HO6.out.trans (Oth.of_ext hE))
    have HL7 := Lib.hid (show Below w0.heap.size w0 w7 from low_ext HL6.out hE)
    clear hE e0 e1 e2 e3
    have e0 := cell_of (i := 0) HG7.out rfl
    have e1 := cell_of (i := 1) HG7.out rfl
    have e2 := cell_of (i := 2) HG7.out rfl
    have e3 := cell_of (i := 3) HG7.out rfl
    go_wp2_with fail
    refine (KC.out _).mono ?_
    intro w8 hE
    have HR8 := Lib.hid ((hE.block _ (lt_of_block HR7.out)).trans HR7.out)
    have HZ8 := Lib.hid ((hE.block _ (lt_of_block HZ7.out)).trans HZ7.out)
    have HG8 := Lib.hid ((hE.block _ (lt_of_block HG7.out)).trans HG7.out)
    have HO8 := Lib.hid (HO7.out.trans (Oth.of_ext hE))
    have HL8 := Lib.hid (show Below w0.heap.size w0 w8 from low_ext HL7.out hE)
    clear hE e0 e1 e2 e3
    have e0 := cell_of (i := 0) HG8.out rfl
    have e1 := cell_of (i := 1) HG8.out rfl
    have e2 := cell_of (i := 2) HG8.out rfl
    have e3 := cell_of (i := 3) HG8.out rfl
    have z0 := cell_of (i := 0) HZ8.out rfl
    have z1 := cell_of (i := 1) HZ8.out rfl
    have z2 := cell_of (i := 2) HZ8.out rfl
    have z3 := cell_of (i := 3) HZ8.out rfl
    have z4 := cell_of (i := 4) HZ8.out rfl
    have zf : ∀ i, w8.frozen? ⟨w.heap.size, i, none⟩ = false := fun i => free_of HZ8.out
    go_wp2
    obtain ⟨W', hW', h3, h4, h5⟩ := put5n HZ8.out rfl (.int .i64 2) (.int .i64 0) (sV tx) (.int .i64 0) (.slice none 0 0)
    rw [hW']
    have z0 := cell_of (i := 0) h3 rfl
    have z1 := cell_of (i := 1) h3 rfl
    have z2 := cell_of (i := 2) h3 rfl
    have z3 := cell_of (i := 3) h3 rfl
    have z4 := cell_of (i := 4) h3 rfl
    exact bodyPost_ret (v := .agg #[.int .i64 2, .int .i64 0, sV tx, .int .i64 0, .slice none 0 0]) (by simp [results, Tryz.f91, go_sem, z0, z1, z2, z3, z4]) rfl ⟨none, 0, by first | rfl | (rw [sB_nil]; rfl), AtB_leaf _ _ _ (fits_nam htx), HO8.out.then (h4 _ (Nat.le_refl _)), (h5 R (by have := HRl.out; omega)).trans HR8.out⟩

set_option maxRecDepth 100000 in
set_option maxHeartbeats 8000000 in
theorem operand_neg {w0 : World} {R : Nat} {p : Option Addr} {c : Nat} {l : List Tk} (hE : RdE w0 R p c l) (k : Nat) (hk : k < l.length) (h1 : l[k].kind = 3) (h2 : l[k].text = [45]) (IO : OpC w0 R p c l (k + 1)) (e : Ex) (j : Nat) (hR : Rd l .opd (k + 1) (.ok e j)) (w : World) (hb : Below w0.heap.size w0 w) (hrd : w.heap[R]? = some (rdO p l.length c k)) :
    Calls Tryz.prog 91 #[.pointer (some ⟨R, 0, none⟩)] w (Got R p l.length c w (.ok (unX 1 e) j)) := by
  obtain ⟨b, off, rfl, q0, q1, q2, q3⟩ := hE.tks k hk
  have HE := Lib.hid hE
  have HB0 := Lib.hid hb
  have HR0 := Lib.hid hrd
  have HRl := Lib.hid (lt_of_block hrd)
  have HRb := Lib.hid (show b ≠ R from fun e => by have h1 := cell_lt' q0; have h2 := hE.low; simp only at h1; omega)
  have d0 : w.cell? ⟨R, 0, none⟩ = some (.slice (some ⟨b, off, none⟩) l.length c) := cell_of hrd rfl
  have d1 : w.cell? ⟨R, 1, none⟩ = some (.int .i64 (k : Int)) := cell_of hrd rfl
  have c0 := (hb.cell (p := ⟨b, off + k * 4, none⟩) (cell_lt' q0)).trans q0
  have c1 := (hb.cell (p := ⟨b, off + k * 4 + 1, none⟩) (cell_lt' q1)).trans q1
  have c2 := (hb.cell (p := ⟨b, off + k * 4 + 2, none⟩) (cell_lt' q2)).trans q2
  have c3 := (hb.cell (p := ⟨b, off + k * 4 + 3, none⟩) (cell_lt' q3)).trans q3
  have hn9 := hE.len
  have hcap := hE.cap
  clear q0 q1 q2 q3
  have htx : (l[k]).text.length ≤ 140737488351232 := hE.txt _ (List.getElem_mem hk)
  generalize l[k] = t at *
  obtain ⟨tk, tx, tv, tp⟩ := t
  dsimp only at *
  have KC := Lib.hid (fun W hb hr => IO W _ hb hr hR)
  clear IO hR
  obtain ⟨n, hn⟩ : ∃ n, l.length = n := ⟨_, rfl⟩
  rw [hn] at hk hrd HR0 hn9 hcap d0 KC
  rw [hn]
  have HN := Lib.hid hn
  clear hn
  have X0 := Lib.hid d0
  have X1 := Lib.hid d1
  have Y0 := Lib.hid c0
  have Y1 := Lib.hid c1
  have Y2 := Lib.hid c2
  have Y3 := Lib.hid c3
  clear c0 c1 c2 c3 hE hb hrd
  subst h1
  subst h2
  have q45 : (sB [45] == { data := #[45] }) = true := by show (sB [45] == sB [45]) = true; rw [sB_beq]; rfl

  have hkn : (k : Int) < (n : Int) := by omega
  have hkc : k < n := hk
  have hk0 : (0 : Int) ≤ (k : Int) := by omega
  have hge : ¬ (n : Int) ≤ (k : Int) := by omega
  have hge2 : ¬ n ≤ k := by omega
  have hRl := HRl.out
  go_enter Tryz.func91, Tryz.ntmps91
  go_wp2
  go_quiet (fail)
  go_wp2
  obtain ⟨w1, hw1⟩ : ∃ W, W = World.drewN (w.alloc (.cells #[.int .i64 0, .int .i64 0, .string { data := #[] }, .int .i64 0, .slice none 0 0] 25)) nq := ⟨_, rfl⟩
  have HX1 := Lib.hid (show Ext w w1 by rw [hw1]; exact Ext.drewN' (ext_alloc w _))
  have HZ1 := Lib.hid (show w1.heap[w.heap.size]? = some (.cells #[.int .i64 0, .int .i64 0, .string { data := #[] }, .int .i64 0, .slice none 0 0] 25) by rw [hw1]; exact alloc_here w _)
  change Code.wp _ _ _ _ (World.drewN (w.alloc (.cells #[.int .i64 0, .int .i64 0, .string { data := #[] }, .int .i64 0, .slice none 0 0] 25)) nq)
  rw [← hw1]
  clear hw1 d0 d1
  replace X0 := Lib.hid (Ext.cellE X0.out HX1.out)
  replace X1 := Lib.hid (Ext.cellE X1.out HX1.out)
  replace Y0 := Lib.hid (Ext.cellE Y0.out HX1.out)
  replace Y1 := Lib.hid (Ext.cellE Y1.out HX1.out)
  replace Y2 := Lib.hid (Ext.cellE Y2.out HX1.out)
  replace Y3 := Lib.hid (Ext.cellE Y3.out HX1.out)
  refine wp_region_tail (l1 := [_, _, _, _, _, _, _, _, _, _, _]) (l2 := [_]) (by kernel_rfl) Ext (fun W => Below.refl _ W) (fun W => show Below W.heap.size W { W with drawn := W.drawn + 1 } from ⟨rfl, rfl, rfl, Nat.le_refl _, fun _ _ => rfl⟩) Ext.trans
    (fun i s W => match i with
      | 0 => s 0 = .pointer (some ⟨R, 0, none⟩)
      | 1 => s 1 = .pointer (some ⟨R, 0, none⟩)
      | 2 => s 2 = .pointer (some ⟨R, 0, none⟩)
      | 3 => s 3 = .slice (some ⟨b, off, none⟩) n c
      | 4 => s 4 = .pointer (some ⟨R, 0, none⟩)
      | 5 => s 5 = .pointer (some ⟨R, 0, none⟩)
      | 6 => s 6 = .pointer (some ⟨R, 1, none⟩)
      | 7 => s 7 = .int .i64 (k : Int)
      | 8 => s 8 = .pointer (some ⟨b, off + k * 4, none⟩)
      | 9 => s 9 = .agg #[.int .i64 (3), sV [45], .int .i64 tv, .int .i64 tp]
      | 10 => ∃ g, s 10 = .pointer (some ⟨g, 0, none⟩) ∧ w1.heap.size ≤ g ∧ W.heap[g]? = some (.cells #[.int .i64 0, .string { data := #[] }, .int .i64 0, .int .i64 0] 36)
      | _ => True)
    (fun i => [i])
    (by
      intro i s s' W W' h hs hE
      have hs := hs i (by simp)
      match i, h, hs with
      | 0, h, hs => exact hs.trans h
      | 1, h, hs => exact hs.trans h
      | 2, h, hs => exact hs.trans h
      | 3, h, hs => exact hs.trans h
      | 4, h, hs => exact hs.trans h
      | 5, h, hs => exact hs.trans h
      | 6, h, hs => exact hs.trans h
      | 7, h, hs => exact hs.trans h
      | 8, h, hs => exact hs.trans h
      | 9, h, hs => exact hs.trans h
      | 10, ⟨g, h1, h2, h3⟩, hs => exact ⟨g, hs.trans h1, h2, (hE.below.block _ (lt_of_block h3)).trans h3⟩
      | i + 11, h, hs => exact trivial)
    (by kernel_rfl) (by kernel_rfl) (by kernel_rfl) 128 rfl (by kernel_rfl) (by kernel_rfl) ?_ ?_
  · intro i op ho a' W hA
    have x0 := Ext.cellE X0.out hA.rel
    have x1 := Ext.cellE X1.out hA.rel
    have y0 := Ext.cellE Y0.out hA.rel
    have y1 := Ext.cellE Y1.out hA.rel
    have y2 := Ext.cellE Y2.out hA.rel
    have y3 := Ext.cellE Y3.out hA.rel
    match i, ho with
    | 0, ho =>
      obtain rfl := Option.some.inj ho
      have e1 : a'.eval (.tmp 0) = .pointer (some ⟨R, 0, none⟩) := hA.keep 0 (by kernel_rfl)
      refine GoesG.value (.pointer (some ⟨R, 0, none⟩)) rfl ?_ (Below.refl _ _) (fun s h1 h2 => h1 rfl)
      simp only [execOp, e1]
      simp [go_sem, x0, x1, y0, y1, y2, y3, hkc, hkn, hk0]
    | 1, ho =>
      obtain rfl := Option.some.inj ho
      have e1 : a'.eval (.tmp 21) = .pointer (some ⟨R, 0, none⟩) := (sv_dst (l := _) rfl).symm.trans (hA.new 0 (by decide) (by kernel_rfl))
      refine GoesG.value (.pointer (some ⟨R, 0, none⟩)) rfl ?_ (Below.refl _ _) (fun s h1 h2 => h1 rfl)
      simp only [execOp, e1]
      simp [go_sem, x0, x1, y0, y1, y2, y3, hkc, hkn, hk0]
    | 2, ho =>
      obtain rfl := Option.some.inj ho
      have e1 : a'.eval (.tmp 22) = .pointer (some ⟨R, 0, none⟩) := (sv_dst (l := _) rfl).symm.trans (hA.new 1 (by decide) (by kernel_rfl))
      refine GoesG.value (.pointer (some ⟨R, 0, none⟩)) rfl ?_ (Below.refl _ _) (fun s h1 h2 => h1 rfl)
      simp only [execOp, e1]
      simp [go_sem, x0, x1, y0, y1, y2, y3, hkc, hkn, hk0]
    | 3, ho =>
      obtain rfl := Option.some.inj ho
      have e1 : a'.eval (.tmp 23) = .pointer (some ⟨R, 0, none⟩) := (sv_dst (l := _) rfl).symm.trans (hA.new 2 (by decide) (by kernel_rfl))
      refine GoesG.value (.slice (some ⟨b, off, none⟩) n c) rfl ?_ (Below.refl _ _) (fun s h1 h2 => h1 rfl)
      simp only [execOp, e1]
      simp [go_sem, x0, x1, y0, y1, y2, y3, hkc, hkn, hk0]
    | 4, ho =>
      obtain rfl := Option.some.inj ho
      have e1 : a'.eval (.tmp 0) = .pointer (some ⟨R, 0, none⟩) := hA.keep 0 (by kernel_rfl)
      refine GoesG.value (.pointer (some ⟨R, 0, none⟩)) rfl ?_ (Below.refl _ _) (fun s h1 h2 => h1 rfl)
      simp only [execOp, e1]
      simp [go_sem, x0, x1, y0, y1, y2, y3, hkc, hkn, hk0]
    | 5, ho =>
      obtain rfl := Option.some.inj ho
      have e1 : a'.eval (.tmp 25) = .pointer (some ⟨R, 0, none⟩) := (sv_dst (l := _) rfl).symm.trans (hA.new 4 (by decide) (by kernel_rfl))
      refine GoesG.value (.pointer (some ⟨R, 0, none⟩)) rfl ?_ (Below.refl _ _) (fun s h1 h2 => h1 rfl)
      simp only [execOp, e1]
      simp [go_sem, x0, x1, y0, y1, y2, y3, hkc, hkn, hk0]
    | 6, ho =>
      obtain rfl := Option.some.inj ho
      have e1 : a'.eval (.tmp 26) = .pointer (some ⟨R, 0, none⟩) := (sv_dst (l := _) rfl).symm.trans (hA.new 5 (by decide) (by kernel_rfl))
      refine GoesG.value (.pointer (some ⟨R, 1, none⟩)) rfl ?_ (Below.refl _ _) (fun s h1 h2 => h1 rfl)
      simp only [execOp, e1]
      simp [go_sem, x0, x1, y0, y1, y2, y3, hkc, hkn, hk0]
    | 7, ho =>
      obtain rfl := Option.some.inj ho
      have e1 : a'.eval (.tmp 27) = .pointer (some ⟨R, 1, none⟩) := (sv_dst (l := _) rfl).symm.trans (hA.new 6 (by decide) (by kernel_rfl))
      refine GoesG.value (.int .i64 (k : Int)) rfl ?_ (Below.refl _ _) (fun s h1 h2 => h1 rfl)
      simp only [execOp, e1]
      simp [go_sem, x0, x1, y0, y1, y2, y3, hkc, hkn, hk0]
    | 8, ho =>
      obtain rfl := Option.some.inj ho
      have e1 : a'.eval (.tmp 24) = .slice (some ⟨b, off, none⟩) n c := (sv_dst (l := _) rfl).symm.trans (hA.new 3 (by decide) (by kernel_rfl))
      have e2 : a'.eval (.tmp 28) = .int .i64 (k : Int) := (sv_dst (l := _) rfl).symm.trans (hA.new 7 (by decide) (by kernel_rfl))
      refine GoesG.value (.pointer (some ⟨b, off + k * 4, none⟩)) rfl ?_ (Below.refl _ _) (fun s h1 h2 => h1 rfl)
      simp only [execOp, e1, e2]
      simp [go_sem, x0, x1, y0, y1, y2, y3, hkc, hkn, hk0]
    | 9, ho =>
      obtain rfl := Option.some.inj ho
      have e1 : a'.eval (.tmp 29) = .pointer (some ⟨b, off + k * 4, none⟩) := (sv_dst (l := _) rfl).symm.trans (hA.new 8 (by decide) (by kernel_rfl))
      refine GoesG.value (.agg #[.int .i64 (3), sV [45], .int .i64 tv, .int .i64 tp]) rfl ?_ (Below.refl _ _) (fun s h1 h2 => h1 rfl)
      simp only [execOp, e1]
      simp [go_sem, x0, x1, y0, y1, y2, y3, hkc, hkn, hk0]
    | 10, ho =>
      obtain rfl := Option.some.inj ho
      refine GoesG.value (.pointer (some ⟨W.heap.size, 0, none⟩)) (W' := W.alloc (.cells #[.int .i64 0, .string { data := #[] }, .int .i64 0, .int .i64 0] 36)) rfl ?_ (ext_alloc _ _) (fun s h1 h2 => ⟨W.heap.size, h1 rfl, hA.rel.size, alloc_here _ _⟩)
      simp only [execOp]
      simp [go_sem, sB_nil]
    | i + 11, ho => cases ho
  · intro vs w4 hvs hG hΦ
    obtain ⟨z0, z1, z2, z3, z4, z5, z6, z7, z8, z9, z10, rfl⟩ : ∃ z0 z1 z2 z3 z4 z5 z6 z7 z8 z9 z10, vs = z0 :: z1 :: z2 :: z3 :: z4 :: z5 :: z6 :: z7 :: z8 :: z9 :: z10 :: [] := by
      match vs, hvs with
      | y0 :: y1 :: y2 :: y3 :: y4 :: y5 :: y6 :: y7 :: y8 :: y9 :: y10 :: [], _ => exact ⟨y0, y1, y2, y3, y4, y5, y6, y7, y8, y9, y10, rfl⟩
    have e0 : z0 = .pointer (some ⟨R, 0, none⟩) := hΦ 0 (by decide)
    subst e0
    have e1 : z1 = .pointer (some ⟨R, 0, none⟩) := hΦ 1 (by decide)
    subst e1
    have e2 : z2 = .pointer (some ⟨R, 0, none⟩) := hΦ 2 (by decide)
    subst e2
    have e3 : z3 = .slice (some ⟨b, off, none⟩) n c := hΦ 3 (by decide)
    subst e3
    have e4 : z4 = .pointer (some ⟨R, 0, none⟩) := hΦ 4 (by decide)
    subst e4
    have e5 : z5 = .pointer (some ⟨R, 0, none⟩) := hΦ 5 (by decide)
    subst e5
    have e6 : z6 = .pointer (some ⟨R, 1, none⟩) := hΦ 6 (by decide)
    subst e6
    have e7 : z7 = .int .i64 (k : Int) := hΦ 7 (by decide)
    subst e7
    have e8 : z8 = .pointer (some ⟨b, off + k * 4, none⟩) := hΦ 8 (by decide)
    subst e8
    have e9 : z9 = .agg #[.int .i64 (3), sV [45], .int .i64 tv, .int .i64 tp] := hΦ 9 (by decide)
    subst e9
    have p10 : ∃ g, z10 = .pointer (some ⟨g, 0, none⟩) ∧ w1.heap.size ≤ g ∧ w4.heap[g]? = some (.cells #[.int .i64 0, .string { data := #[] }, .int .i64 0, .int .i64 0] 36) := hΦ 10 (by decide)
    clear hΦ hvs
    simp only [putAll, Act.put, List.setIfInBounds_toArray, List.set_cons_succ, List.set_cons_zero]
    obtain ⟨g, rfl, hg1, hg2⟩ := p10
    have e0 := cell_of (i := 0) hg2 rfl
    have e1 := cell_of (i := 1) hg2 rfl
    have e2 := cell_of (i := 2) hg2 rfl
    have e3 := cell_of (i := 3) hg2 rfl
    have f0 : ∀ i, w4.frozen? ⟨g, i, none⟩ = false := fun i => free_of hg2
    have HG2 := Lib.hid hg2
    have HG1 := Lib.hid hg1
    have HG := Lib.hid hG
    clear hg1 hg2 hG
    go_upto_region 4 with fail
    obtain ⟨w5, hw5, hg5, hB5, hO5⟩ := put4 HG2.out rfl (.int .i64 (3)) (sV [45]) (.int .i64 tv) (.int .i64 tp)
    rw [hw5]
    have HX5 := Lib.hid (show Ext w w5 from Below.trans (Below.trans HX1.out (HG.out.below.mono HX1.out.size)) (hB5 _ (Nat.le_trans HX1.out.size HG1.out)))
    have HBN := Lib.hid (show w.heap.size < g from Nat.lt_of_lt_of_le (lt_of_block HZ1.out) HG1.out)
    have hr5 : w5.heap[R]? = some (rdO (some ⟨b, off, none⟩) n c k) := (HX5.out.below.block _ HRl.out).trans HR0.out
    have HZ5 := Lib.hid (show w5.heap[w.heap.size]? = some (.cells #[.int .i64 0, .int .i64 0, .string { data := #[] }, .int .i64 0, .slice none 0 0] 25) from (hO5 _ (by have := HBN.out; omega)).trans ((HG.out.below.block _ (lt_of_block HZ1.out)).trans HZ1.out))
    have HG5 := Lib.hid hg5
    have HR5 := Lib.hid hr5
    have d0 : w5.cell? ⟨R, 0, none⟩ = some (.slice (some ⟨b, off, none⟩) n c) := cell_of hr5 rfl
    have d1 : w5.cell? ⟨R, 1, none⟩ = some (.int .i64 (k : Int)) := cell_of hr5 rfl
    have g0 : ∀ i, w5.frozen? ⟨R, i, none⟩ = false := fun i => free_of hr5
    clear hw5 hg5 hB5 hO5 hr5 e0 e1 e2 e3 f0 X0 X1 Y0 Y1 Y2 Y3 HG HG2
    go_upto_region 5 with fail
    obtain ⟨w6, hw6⟩ : ∃ W, w5.setCell ⟨R, 1, none⟩ (.int .i64 ((k : Int) + 1)) = W := ⟨_, rfl⟩
    rw [hw6]
    have HR6 := Lib.hid (show w6.heap[R]? = some (rdO (some ⟨b, off, none⟩) n c (k + 1)) from by
      have h := ((Turn.refl HR5.out).setCell (i := 1) (.int .i64 ((k : Int) + 1))).here
      rw [hw6] at h
      rw [h]; simp)
    have HO6 := Lib.hid (show Oth R w w6 from by rw [← hw6]; exact (Oth.of_ext HX5.out).trans (Oth.set R 1 _ w5))
    have HZ6 := Lib.hid (show w6.heap[w.heap.size]? = some (.cells #[.int .i64 0, .int .i64 0, .string { data := #[] }, .int .i64 0, .slice none 0 0] 25) from by rw [← hw6]; exact (Below.heap_setCell _ _ _ _ (by have := HRl.out; show w.heap.size ≠ R; omega)).trans HZ5.out)
    have hg6 : w6.heap[g]? = some (.cells #[.int .i64 (3), sV [45], .int .i64 tv, .int .i64 tp] tTk) := by rw [← hw6]; exact (Below.heap_setCell _ _ _ _ (by have := HRl.out; have := HBN.out; show g ≠ R; omega)).trans HG5.out
    have HG6 := Lib.hid hg6
    have HL6 := Lib.hid (show Below w0.heap.size w0 w6 from Below.trans HB0.out (HO6.out.below HE.out.low HB0.out.size))
    have e0 := cell_of (i := 0) hg6 rfl
    have e1 := cell_of (i := 1) hg6 rfl
    have e2 := cell_of (i := 2) hg6 rfl
    have e3 := cell_of (i := 3) hg6 rfl
    clear hw6 d0 d1 g0 HR5 HG5 HZ5 HX5 hg6 HZ1 HX1
    obtain ⟨k1, o1, n1, v1, ts⟩ := e
    go_wp2_with fail
    refine (KC.out _ HL6.out HR6.out).mono ?_
    rintro _ w7 ⟨q, cc, rfl, hA, hO, hr⟩
    dsimp only [Ex.val, Ex.kind, Ex.op, Ex.name, Ex.value, Ex.args]
    have HA := Lib.hid hA
    have HO7 := Lib.hid (HO6.out.trans hO)
    have HR7 := Lib.hid hr
    have hz7 := (hO.other _ (lt_of_block HZ6.out) (by have := HRl.out; omega)).trans HZ6.out
    have HS6 := Lib.hid (show w.heap.size < w6.heap.size from lt_of_block HZ6.out)
    clear hA hO hr e0 e1 e2 e3
    obtain ⟨m, hm⟩ : ∃ m, ts.length = m := ⟨_, rfl⟩
    rw [hm]
    have HM := Lib.hid hm
    clear hm
    have hl7 := lt_of_block hz7
    have HL7 := Lib.hid hl7
    have hz8 := (Below.heap_alloc w7 (.cells #[.int .i64 k1, .int .i64 o1, sV n1, .int .i64 v1, .slice q m cc] tEx) w.heap.size hl7).trans hz7
    have HX8 := Lib.hid (ext_alloc w7 (.cells #[.int .i64 k1, .int .i64 o1, sV n1, .int .i64 v1, .slice q m cc] tEx))
    have HB8 := Lib.hid (alloc_here w7 (.cells #[.int .i64 k1, .int .i64 o1, sV n1, .int .i64 v1, .slice q m cc] tEx))
    have z0 : (w7.alloc (.cells #[.int .i64 k1, .int .i64 o1, sV n1, .int .i64 v1, .slice q m cc] tEx)).cell? ⟨w.heap.size, 0, none⟩ = some (.int .i64 0) := cell_of hz8 rfl
    have z1 : (w7.alloc (.cells #[.int .i64 k1, .int .i64 o1, sV n1, .int .i64 v1, .slice q m cc] tEx)).cell? ⟨w.heap.size, 1, none⟩ = some (.int .i64 0) := cell_of hz8 rfl
    have z2 : (w7.alloc (.cells #[.int .i64 k1, .int .i64 o1, sV n1, .int .i64 v1, .slice q m cc] tEx)).cell? ⟨w.heap.size, 2, none⟩ = some (.string { data := #[] }) := cell_of hz8 rfl
    have z3 : (w7.alloc (.cells #[.int .i64 k1, .int .i64 o1, sV n1, .int .i64 v1, .slice q m cc] tEx)).cell? ⟨w.heap.size, 3, none⟩ = some (.int .i64 0) := cell_of hz8 rfl
    have z4 : (w7.alloc (.cells #[.int .i64 k1, .int .i64 o1, sV n1, .int .i64 v1, .slice q m cc] tEx)).cell? ⟨w.heap.size, 4, none⟩ = some (.slice none 0 0) := cell_of hz8 rfl
    have zf : ∀ i, (w7.alloc (.cells #[.int .i64 k1, .int .i64 o1, sV n1, .int .i64 v1, .slice q m cc] tEx)).frozen? ⟨w.heap.size, i, none⟩ = false := fun i => free_of hz8
    have HZ8 := Lib.hid hz8
    clear hz7 hz8 hl7
    go_wp2
    generalize w7.alloc (.cells #[.int .i64 k1, .int .i64 o1, sV n1, .int .i64 v1, .slice q m cc] tEx) = w8 at *
    have HR8 := Lib.hid ((HX8.out.below.block _ (lt_of_block HR7.out)).trans HR7.out)
    have HO8 := Lib.hid (HO7.out.trans (Oth.of_ext HX8.out))
    clear z0 z1 z2 z3 z4 zf
    obtain ⟨W', hW', h3, h4, h5⟩ := put5n HZ8.out rfl (.int .i64 3) (.int .i64 1) (.string { data := #[] }) (.int .i64 0) (.slice (some ⟨w7.heap.size, 0, none⟩) 1 1)
    rw [hW']
    have z0 := cell_of (i := 0) h3 rfl
    have z1 := cell_of (i := 1) h3 rfl
    have z2 := cell_of (i := 2) h3 rfl
    have z3 := cell_of (i := 3) h3 rfl
    have z4 := cell_of (i := 4) h3 rfl
    exact bodyPost_ret (v := .agg #[.int .i64 3, .int .i64 1, .string { data := #[] }, .int .i64 0, .slice (some ⟨w7.heap.size, 0, none⟩) 1 1]) (by simp [results, Tryz.f91, go_sem, z0, z1, z2, z3, z4]) rfl ⟨some ⟨w7.heap.size, 0, none⟩, 1, by first | rfl | (rw [sB_nil]; rfl), at_un (by decide) (by have h := (h5 _ (by have := HL7.out; omega)).trans HB8.out; rw [← HM.out] at h; exact h) (by have := HL7.out; omega) (((HA.out.ext HX8.out).imp (fun b hb _ => hb)).keep (fun b hb hl => ⟨by have := HS6.out; omega, h5 b (by have := HS6.out; omega)⟩)), HO8.out.then (h4 _ (Nat.le_refl _)), (h5 R (by have := HRl.out; omega)).trans HR8.out⟩

set_option maxRecDepth 100000 in
set_option maxHeartbeats 8000000 in
theorem operand_negB {w0 : World} {R : Nat} {p : Option Addr} {c : Nat} {l : List Tk} (hE : RdE w0 R p c l) (k : Nat) (hk : k < l.length) (h1 : l[k].kind = 3) (h2 : l[k].text = [45]) (IO : OpC w0 R p c l (k + 1)) (j : Nat) (hR : Rd l .opd (k + 1) (.bad j)) (w : World) (hb : Below w0.heap.size w0 w) (hrd : w.heap[R]? = some (rdO p l.length c k)) :
    Calls Tryz.prog 91 #[.pointer (some ⟨R, 0, none⟩)] w (Got R p l.length c w (.bad j)) := by
  obtain ⟨b, off, rfl, q0, q1, q2, q3⟩ := hE.tks k hk
  have HE := Lib.hid hE
  have HB0 := Lib.hid hb
  have HR0 := Lib.hid hrd
  have HRl := Lib.hid (lt_of_block hrd)
  have HRb := Lib.hid (show b ≠ R from fun e => by have h1 := cell_lt' q0; have h2 := hE.low; simp only at h1; omega)
  have d0 : w.cell? ⟨R, 0, none⟩ = some (.slice (some ⟨b, off, none⟩) l.length c) := cell_of hrd rfl
  have d1 : w.cell? ⟨R, 1, none⟩ = some (.int .i64 (k : Int)) := cell_of hrd rfl
  have c0 := (hb.cell (p := ⟨b, off + k * 4, none⟩) (cell_lt' q0)).trans q0
  have c1 := (hb.cell (p := ⟨b, off + k * 4 + 1, none⟩) (cell_lt' q1)).trans q1
  have c2 := (hb.cell (p := ⟨b, off + k * 4 + 2, none⟩) (cell_lt' q2)).trans q2
  have c3 := (hb.cell (p := ⟨b, off + k * 4 + 3, none⟩) (cell_lt' q3)).trans q3
  have hn9 := hE.len
  have hcap := hE.cap
  clear q0 q1 q2 q3
  have htx : (l[k]).text.length ≤ 140737488351232 := hE.txt _ (List.getElem_mem hk)
  generalize l[k] = t at *
  obtain ⟨tk, tx, tv, tp⟩ := t
  dsimp only at *
  have KC := Lib.hid (fun W hb hr => IO W _ hb hr hR)
  clear IO hR
  obtain ⟨n, hn⟩ : ∃ n, l.length = n := ⟨_, rfl⟩
  rw [hn] at hk hrd HR0 hn9 hcap d0 KC
  rw [hn]
  have HN := Lib.hid hn
  clear hn
  have X0 := Lib.hid d0
  have X1 := Lib.hid d1
  have Y0 := Lib.hid c0
  have Y1 := Lib.hid c1
  have Y2 := Lib.hid c2
  have Y3 := Lib.hid c3
  clear c0 c1 c2 c3 hE hb hrd
  subst h1
  subst h2
  have q45 : (sB [45] == { data := #[45] }) = true := by show (sB [45] == sB [45]) = true; rw [sB_beq]; rfl

  have hkn : (k : Int) < (n : Int) := by omega
  have hkc : k < n := hk
  have hk0 : (0 : Int) ≤ (k : Int) := by omega
  have hge : ¬ (n : Int) ≤ (k : Int) := by omega
  have hge2 : ¬ n ≤ k := by omega
  have hRl := HRl.out
  go_enter Tryz.func91, Tryz.ntmps91
  go_wp2
  go_quiet (fail)
  go_wp2
  obtain ⟨w1, hw1⟩ : ∃ W, W = World.drewN (w.alloc (.cells #[.int .i64 0, .int .i64 0, .string { data := #[] }, .int .i64 0, .slice none 0 0] 25)) nq := ⟨_, rfl⟩
  have HX1 := Lib.hid (show Ext w w1 by rw [hw1]; exact Ext.drewN' (ext_alloc w _))
  have HZ1 := Lib.hid (show w1.heap[w.heap.size]? = some (.cells #[.int .i64 0, .int .i64 0, .string { data := #[] }, .int .i64 0, .slice none 0 0] 25) by rw [hw1]; exact alloc_here w _)
  change Code.wp _ _ _ _ (World.drewN (w.alloc (.cells #[.int .i64 0, .int .i64 0, .string { data := #[] }, .int .i64 0, .slice none 0 0] 25)) nq)
  rw [← hw1]
  clear hw1 d0 d1
  replace X0 := Lib.hid (Ext.cellE X0.out HX1.out)
  replace X1 := Lib.hid (Ext.cellE X1.out HX1.out)
  replace Y0 := Lib.hid (Ext.cellE Y0.out HX1.out)
  replace Y1 := Lib.hid (Ext.cellE Y1.out HX1.out)
  replace Y2 := Lib.hid (Ext.cellE Y2.out HX1.out)
  replace Y3 := Lib.hid (Ext.cellE Y3.out HX1.out)
  refine wp_region_tail (l1 := [_, _, _, _, _, _, _, _, _, _, _]) (l2 := [_]) (by kernel_rfl) Ext (fun W => Below.refl _ W) (fun W => show Below W.heap.size W { W with drawn := W.drawn + 1 } from ⟨rfl, rfl, rfl, Nat.le_refl _, fun _ _ => rfl⟩) Ext.trans
    (fun i s W => match i with
      | 0 => s 0 = .pointer (some ⟨R, 0, none⟩)
      | 1 => s 1 = .pointer (some ⟨R, 0, none⟩)
      | 2 => s 2 = .pointer (some ⟨R, 0, none⟩)
      | 3 => s 3 = .slice (some ⟨b, off, none⟩) n c
      | 4 => s 4 = .pointer (some ⟨R, 0, none⟩)
      | 5 => s 5 = .pointer (some ⟨R, 0, none⟩)
      | 6 => s 6 = .pointer (some ⟨R, 1, none⟩)
      | 7 => s 7 = .int .i64 (k : Int)
      | 8 => s 8 = .pointer (some ⟨b, off + k * 4, none⟩)
      | 9 => s 9 = .agg #[.int .i64 (3), sV [45], .int .i64 tv, .int .i64 tp]
      | 10 => ∃ g, s 10 = .pointer (some ⟨g, 0, none⟩) ∧ w1.heap.size ≤ g ∧ W.heap[g]? = some (.cells #[.int .i64 0, .string { data := #[] }, .int .i64 0, .int .i64 0] 36)
      | _ => True)
    (fun i => [i])
    (by
      intro i s s' W W' h hs hE
      have hs := hs i (by simp)
      match i, h, hs with
      | 0, h, hs => exact hs.trans h
      | 1, h, hs => exact hs.trans h
      | 2, h, hs => exact hs.trans h
      | 3, h, hs => exact hs.trans h
      | 4, h, hs => exact hs.trans h
      | 5, h, hs => exact hs.trans h
      | 6, h, hs => exact hs.trans h
      | 7, h, hs => exact hs.trans h
      | 8, h, hs => exact hs.trans h
      | 9, h, hs => exact hs.trans h
      | 10, ⟨g, h1, h2, h3⟩, hs => exact ⟨g, hs.trans h1, h2, (hE.below.block _ (lt_of_block h3)).trans h3⟩
      | i + 11, h, hs => exact trivial)
    (by kernel_rfl) (by kernel_rfl) (by kernel_rfl) 128 rfl (by kernel_rfl) (by kernel_rfl) ?_ ?_
  · intro i op ho a' W hA
    have x0 := Ext.cellE X0.out hA.rel
    have x1 := Ext.cellE X1.out hA.rel
    have y0 := Ext.cellE Y0.out hA.rel
    have y1 := Ext.cellE Y1.out hA.rel
    have y2 := Ext.cellE Y2.out hA.rel
    have y3 := Ext.cellE Y3.out hA.rel
    match i, ho with
    | 0, ho =>
      obtain rfl := Option.some.inj ho
      have e1 : a'.eval (.tmp 0) = .pointer (some ⟨R, 0, none⟩) := hA.keep 0 (by kernel_rfl)
      refine GoesG.value (.pointer (some ⟨R, 0, none⟩)) rfl ?_ (Below.refl _ _) (fun s h1 h2 => h1 rfl)
      simp only [execOp, e1]
      simp [go_sem, x0, x1, y0, y1, y2, y3, hkc, hkn, hk0]
    | 1, ho =>
      obtain rfl := Option.some.inj ho
      have e1 : a'.eval (.tmp 21) = .pointer (some ⟨R, 0, none⟩) := (sv_dst (l := _) rfl).symm.trans (hA.new 0 (by decide) (by kernel_rfl))
      refine GoesG.value (.pointer (some ⟨R, 0, none⟩)) rfl ?_ (Below.refl _ _) (fun s h1 h2 => h1 rfl)
      simp only [execOp, e1]
      simp [go_sem, x0, x1, y0, y1, y2, y3, hkc, hkn, hk0]
    | 2, ho =>
      obtain rfl := Option.some.inj ho
      have e1 : a'.eval (.tmp 22) = .pointer (some ⟨R, 0, none⟩) := (sv_dst (l := _) rfl).symm.trans (hA.new 1 (by decide) (by kernel_rfl))
      refine GoesG.value (.pointer (some ⟨R, 0, none⟩)) rfl ?_ (Below.refl _ _) (fun s h1 h2 => h1 rfl)
      simp only [execOp, e1]
      simp [go_sem, x0, x1, y0, y1, y2, y3, hkc, hkn, hk0]
    | 3, ho =>
      obtain rfl := Option.some.inj ho
      have e1 : a'.eval (.tmp 23) = .pointer (some ⟨R, 0, none⟩) := (sv_dst (l := _) rfl).symm.trans (hA.new 2 (by decide) (by kernel_rfl))
      refine GoesG.value (.slice (some ⟨b, off, none⟩) n c) rfl ?_ (Below.refl _ _) (fun s h1 h2 => h1 rfl)
      simp only [execOp, e1]
      simp [go_sem, x0, x1, y0, y1, y2, y3, hkc, hkn, hk0]
    | 4, ho =>
      obtain rfl := Option.some.inj ho
      have e1 : a'.eval (.tmp 0) = .pointer (some ⟨R, 0, none⟩) := hA.keep 0 (by kernel_rfl)
      refine GoesG.value (.pointer (some ⟨R, 0, none⟩)) rfl ?_ (Below.refl _ _) (fun s h1 h2 => h1 rfl)
      simp only [execOp, e1]
      simp [go_sem, x0, x1, y0, y1, y2, y3, hkc, hkn, hk0]
    | 5, ho =>
      obtain rfl := Option.some.inj ho
      have e1 : a'.eval (.tmp 25) = .pointer (some ⟨R, 0, none⟩) := (sv_dst (l := _) rfl).symm.trans (hA.new 4 (by decide) (by kernel_rfl))
      refine GoesG.value (.pointer (some ⟨R, 0, none⟩)) rfl ?_ (Below.refl _ _) (fun s h1 h2 => h1 rfl)
      simp only [execOp, e1]
      simp [go_sem, x0, x1, y0, y1, y2, y3, hkc, hkn, hk0]
    | 6, ho =>
      obtain rfl := Option.some.inj ho
      have e1 : a'.eval (.tmp 26) = .pointer (some ⟨R, 0, none⟩) := (sv_dst (l := _) rfl).symm.trans (hA.new 5 (by decide) (by kernel_rfl))
      refine GoesG.value (.pointer (some ⟨R, 1, none⟩)) rfl ?_ (Below.refl _ _) (fun s h1 h2 => h1 rfl)
      simp only [execOp, e1]
      simp [go_sem, x0, x1, y0, y1, y2, y3, hkc, hkn, hk0]
    | 7, ho =>
      obtain rfl := Option.some.inj ho
      have e1 : a'.eval (.tmp 27) = .pointer (some ⟨R, 1, none⟩) := (sv_dst (l := _) rfl).symm.trans (hA.new 6 (by decide) (by kernel_rfl))
      refine GoesG.value (.int .i64 (k : Int)) rfl ?_ (Below.refl _ _) (fun s h1 h2 => h1 rfl)
      simp only [execOp, e1]
      simp [go_sem, x0, x1, y0, y1, y2, y3, hkc, hkn, hk0]
    | 8, ho =>
      obtain rfl := Option.some.inj ho
      have e1 : a'.eval (.tmp 24) = .slice (some ⟨b, off, none⟩) n c := (sv_dst (l := _) rfl).symm.trans (hA.new 3 (by decide) (by kernel_rfl))
      have e2 : a'.eval (.tmp 28) = .int .i64 (k : Int) := (sv_dst (l := _) rfl).symm.trans (hA.new 7 (by decide) (by kernel_rfl))
      refine GoesG.value (.pointer (some ⟨b, off + k * 4, none⟩)) rfl ?_ (Below.refl _ _) (fun s h1 h2 => h1 rfl)
      simp only [execOp, e1, e2]
      simp [go_sem, x0, x1, y0, y1, y2, y3, hkc, hkn, hk0]
    | 9, ho =>
      obtain rfl := Option.some.inj ho
      have e1 : a'.eval (.tmp 29) = .pointer (some ⟨b, off + k * 4, none⟩) := (sv_dst (l := _) rfl).symm.trans (hA.new 8 (by decide) (by kernel_rfl))
      refine GoesG.value (.agg #[.int .i64 (3), sV [45], .int .i64 tv, .int .i64 tp]) rfl ?_ (Below.refl _ _) (fun s h1 h2 => h1 rfl)
      simp only [execOp, e1]
      simp [go_sem, x0, x1, y0, y1, y2, y3, hkc, hkn, hk0]
    | 10, ho =>
      obtain rfl := Option.some.inj ho
      refine GoesG.value (.pointer (some ⟨W.heap.size, 0, none⟩)) (W' := W.alloc (.cells #[.int .i64 0, .string { data := #[] }, .int .i64 0, .int .i64 0] 36)) rfl ?_ (ext_alloc _ _) (fun s h1 h2 => ⟨W.heap.size, h1 rfl, hA.rel.size, alloc_here _ _⟩)
      simp only [execOp]
      simp [go_sem, sB_nil]
    | i + 11, ho => cases ho
  · intro vs w4 hvs hG hΦ
    obtain ⟨z0, z1, z2, z3, z4, z5, z6, z7, z8, z9, z10, rfl⟩ : ∃ z0 z1 z2 z3 z4 z5 z6 z7 z8 z9 z10, vs = z0 :: z1 :: z2 :: z3 :: z4 :: z5 :: z6 :: z7 :: z8 :: z9 :: z10 :: [] := by
      match vs, hvs with
      | y0 :: y1 :: y2 :: y3 :: y4 :: y5 :: y6 :: y7 :: y8 :: y9 :: y10 :: [], _ => exact ⟨y0, y1, y2, y3, y4, y5, y6, y7, y8, y9, y10, rfl⟩
    have e0 : z0 = .pointer (some ⟨R, 0, none⟩) := hΦ 0 (by decide)
    subst e0
    have e1 : z1 = .pointer (some ⟨R, 0, none⟩) := hΦ 1 (by decide)
    subst e1
    have e2 : z2 = .pointer (some ⟨R, 0, none⟩) := hΦ 2 (by decide)
    subst e2
    have e3 : z3 = .slice (some ⟨b, off, none⟩) n c := hΦ 3 (by decide)
    subst e3
    have e4 : z4 = .pointer (some ⟨R, 0, none⟩) := hΦ 4 (by decide)
    subst e4
    have e5 : z5 = .pointer (some ⟨R, 0, none⟩) := hΦ 5 (by decide)
    subst e5
    have e6 : z6 = .pointer (some ⟨R, 1, none⟩) := hΦ 6 (by decide)
    subst e6
    have e7 : z7 = .int .i64 (k : Int) := hΦ 7 (by decide)
    subst e7
    have e8 : z8 = .pointer (some ⟨b, off + k * 4, none⟩) := hΦ 8 (by decide)
    subst e8
    have e9 : z9 = .agg #[.int .i64 (3), sV [45], .int .i64 tv, .int .i64 tp] := hΦ 9 (by decide)
    subst e9
    have p10 : ∃ g, z10 = .pointer (some ⟨g, 0, none⟩) ∧ w1.heap.size ≤ g ∧ w4.heap[g]? = some (.cells #[.int .i64 0, .string { data := #[] }, .int .i64 0, .int .i64 0] 36) := hΦ 10 (by decide)
    clear hΦ hvs
    simp only [putAll, Act.put, List.setIfInBounds_toArray, List.set_cons_succ, List.set_cons_zero]
    obtain ⟨g, rfl, hg1, hg2⟩ := p10
    have e0 := cell_of (i := 0) hg2 rfl
    have e1 := cell_of (i := 1) hg2 rfl
    have e2 := cell_of (i := 2) hg2 rfl
    have e3 := cell_of (i := 3) hg2 rfl
    have f0 : ∀ i, w4.frozen? ⟨g, i, none⟩ = false := fun i => free_of hg2
    have HG2 := Lib.hid hg2
    have HG1 := Lib.hid hg1
    have HG := Lib.hid hG
    clear hg1 hg2 hG
    go_upto_region 4 with fail
    obtain ⟨w5, hw5, hg5, hB5, hO5⟩ := put4 HG2.out rfl (.int .i64 (3)) (sV [45]) (.int .i64 tv) (.int .i64 tp)
    rw [hw5]
    have HX5 := Lib.hid (show Ext w w5 from Below.trans (Below.trans HX1.out (HG.out.below.mono HX1.out.size)) (hB5 _ (Nat.le_trans HX1.out.size HG1.out)))
    have HBN := Lib.hid (show w.heap.size < g from Nat.lt_of_lt_of_le (lt_of_block HZ1.out) HG1.out)
    have hr5 : w5.heap[R]? = some (rdO (some ⟨b, off, none⟩) n c k) := (HX5.out.below.block _ HRl.out).trans HR0.out
    have HZ5 := Lib.hid (show w5.heap[w.heap.size]? = some (.cells #[.int .i64 0, .int .i64 0, .string { data := #[] }, .int .i64 0, .slice none 0 0] 25) from (hO5 _ (by have := HBN.out; omega)).trans ((HG.out.below.block _ (lt_of_block HZ1.out)).trans HZ1.out))
    have HG5 := Lib.hid hg5
    have HR5 := Lib.hid hr5
    have d0 : w5.cell? ⟨R, 0, none⟩ = some (.slice (some ⟨b, off, none⟩) n c) := cell_of hr5 rfl
    have d1 : w5.cell? ⟨R, 1, none⟩ = some (.int .i64 (k : Int)) := cell_of hr5 rfl
    have g0 : ∀ i, w5.frozen? ⟨R, i, none⟩ = false := fun i => free_of hr5
    clear hw5 hg5 hB5 hO5 hr5 e0 e1 e2 e3 f0 X0 X1 Y0 Y1 Y2 Y3 HG HG2
    go_upto_region 5 with fail
    obtain ⟨w6, hw6⟩ : ∃ W, w5.setCell ⟨R, 1, none⟩ (.int .i64 ((k : Int) + 1)) = W := ⟨_, rfl⟩
    rw [hw6]
    have HR6 := Lib.hid (show w6.heap[R]? = some (rdO (some ⟨b, off, none⟩) n c (k + 1)) from by
      have h := ((Turn.refl HR5.out).setCell (i := 1) (.int .i64 ((k : Int) + 1))).here
      rw [hw6] at h
      rw [h]; simp)
    have HO6 := Lib.hid (show Oth R w w6 from by rw [← hw6]; exact (Oth.of_ext HX5.out).trans (Oth.set R 1 _ w5))
    have HZ6 := Lib.hid (show w6.heap[w.heap.size]? = some (.cells #[.int .i64 0, .int .i64 0, .string { data := #[] }, .int .i64 0, .slice none 0 0] 25) from by rw [← hw6]; exact (Below.heap_setCell _ _ _ _ (by have := HRl.out; show w.heap.size ≠ R; omega)).trans HZ5.out)
    have hg6 : w6.heap[g]? = some (.cells #[.int .i64 (3), sV [45], .int .i64 tv, .int .i64 tp] tTk) := by rw [← hw6]; exact (Below.heap_setCell _ _ _ _ (by have := HRl.out; have := HBN.out; show g ≠ R; omega)).trans HG5.out
    have HG6 := Lib.hid hg6
    have HL6 := Lib.hid (show Below w0.heap.size w0 w6 from Below.trans HB0.out (HO6.out.below HE.out.low HB0.out.size))
    have e0 := cell_of (i := 0) hg6 rfl
    have e1 := cell_of (i := 1) hg6 rfl
    have e2 := cell_of (i := 2) hg6 rfl
    have e3 := cell_of (i := 3) hg6 rfl
    clear hw6 d0 d1 g0 HR5 HG5 HZ5 HX5 hg6 HZ1 HX1
    go_wp2_with fail
    refine (KC.out _ HL6.out HR6.out).mono ?_
    rintro _ w7 ⟨rfl, hO⟩
    dsimp only
    exact ⟨rfl, rfl, HO6.out.trans hO⟩

set_option maxRecDepth 100000 in
set_option maxHeartbeats 8000000 in
theorem operand_no {w0 : World} {R : Nat} {p : Option Addr} {c : Nat} {l : List Tk} (hE : RdE w0 R p c l) (k : Nat) (hk : k < l.length) (h1 : l[k].kind = 3) (h2 : l[k].text = [33]) (IO : OpC w0 R p c l (k + 1)) (e : Ex) (j : Nat) (hR : Rd l .opd (k + 1) (.ok e j)) (w : World) (hb : Below w0.heap.size w0 w) (hrd : w.heap[R]? = some (rdO p l.length c k)) :
    Calls Tryz.prog 91 #[.pointer (some ⟨R, 0, none⟩)] w (Got R p l.length c w (.ok (unX 2 e) j)) := by
  obtain ⟨b, off, rfl, q0, q1, q2, q3⟩ := hE.tks k hk
  have HE := Lib.hid hE
  have HB0 := Lib.hid hb
  have HR0 := Lib.hid hrd
  have HRl := Lib.hid (lt_of_block hrd)
  have HRb := Lib.hid (show b ≠ R from fun e => by have h1 := cell_lt' q0; have h2 := hE.low; simp only at h1; omega)
  have d0 : w.cell? ⟨R, 0, none⟩ = some (.slice (some ⟨b, off, none⟩) l.length c) := cell_of hrd rfl
  have d1 : w.cell? ⟨R, 1, none⟩ = some (.int .i64 (k : Int)) := cell_of hrd rfl
  have c0 := (hb.cell (p := ⟨b, off + k * 4, none⟩) (cell_lt' q0)).trans q0
  have c1 := (hb.cell (p := ⟨b, off + k * 4 + 1, none⟩) (cell_lt' q1)).trans q1
  have c2 := (hb.cell (p := ⟨b, off + k * 4 + 2, none⟩) (cell_lt' q2)).trans q2
  have c3 := (hb.cell (p := ⟨b, off + k * 4 + 3, none⟩) (cell_lt' q3)).trans q3
  have hn9 := hE.len
  have hcap := hE.cap
  clear q0 q1 q2 q3
  have htx : (l[k]).text.length ≤ 140737488351232 := hE.txt _ (List.getElem_mem hk)
  generalize l[k] = t at *
  obtain ⟨tk, tx, tv, tp⟩ := t
  dsimp only at *
  have KC := Lib.hid (fun W hb hr => IO W _ hb hr hR)
  clear IO hR
  obtain ⟨n, hn⟩ : ∃ n, l.length = n := ⟨_, rfl⟩
  rw [hn] at hk hrd HR0 hn9 hcap d0 KC
  rw [hn]
  have HN := Lib.hid hn
  clear hn
  have X0 := Lib.hid d0
  have X1 := Lib.hid d1
  have Y0 := Lib.hid c0
  have Y1 := Lib.hid c1
  have Y2 := Lib.hid c2
  have Y3 := Lib.hid c3
  clear c0 c1 c2 c3 hE hb hrd
  subst h1
  subst h2
  have q45 : (sB [33] == { data := #[45] }) = false := by show (sB [33] == sB [45]) = false; rw [sB_beq]; rfl
  have q33 : (sB [33] == { data := #[33] }) = true := by show (sB [33] == sB [33]) = true; rw [sB_beq]; rfl

  have hkn : (k : Int) < (n : Int) := by omega
  have hkc : k < n := hk
  have hk0 : (0 : Int) ≤ (k : Int) := by omega
  have hge : ¬ (n : Int) ≤ (k : Int) := by omega
  have hge2 : ¬ n ≤ k := by omega
  have hRl := HRl.out
  go_enter Tryz.func91, Tryz.ntmps91
  go_wp2
  go_quiet (fail)
  go_wp2
  obtain ⟨w1, hw1⟩ : ∃ W, W = World.drewN (w.alloc (.cells #[.int .i64 0, .int .i64 0, .string { data := #[] }, .int .i64 0, .slice none 0 0] 25)) nq := ⟨_, rfl⟩
  have HX1 := Lib.hid (show Ext w w1 by rw [hw1]; exact Ext.drewN' (ext_alloc w _))
  have HZ1 := Lib.hid (show w1.heap[w.heap.size]? = some (.cells #[.int .i64 0, .int .i64 0, .string { data := #[] }, .int .i64 0, .slice none 0 0] 25) by rw [hw1]; exact alloc_here w _)
  change Code.wp _ _ _ _ (World.drewN (w.alloc (.cells #[.int .i64 0, .int .i64 0, .string { data := #[] }, .int .i64 0, .slice none 0 0] 25)) nq)
  rw [← hw1]
  clear hw1 d0 d1
  replace X0 := Lib.hid (Ext.cellE X0.out HX1.out)
  replace X1 := Lib.hid (Ext.cellE X1.out HX1.out)
  replace Y0 := Lib.hid (Ext.cellE Y0.out HX1.out)
  replace Y1 := Lib.hid (Ext.cellE Y1.out HX1.out)
  replace Y2 := Lib.hid (Ext.cellE Y2.out HX1.out)
  replace Y3 := Lib.hid (Ext.cellE Y3.out HX1.out)
  refine wp_region_tail (l1 := [_, _, _, _, _, _, _, _, _, _, _]) (l2 := [_]) (by kernel_rfl) Ext (fun W => Below.refl _ W) (fun W => show Below W.heap.size W { W with drawn := W.drawn + 1 } from ⟨rfl, rfl, rfl, Nat.le_refl _, fun _ _ => rfl⟩) Ext.trans
    (fun i s W => match i with
      | 0 => s 0 = .pointer (some ⟨R, 0, none⟩)
      | 1 => s 1 = .pointer (some ⟨R, 0, none⟩)
      | 2 => s 2 = .pointer (some ⟨R, 0, none⟩)
      | 3 => s 3 = .slice (some ⟨b, off, none⟩) n c
      | 4 => s 4 = .pointer (some ⟨R, 0, none⟩)
      | 5 => s 5 = .pointer (some ⟨R, 0, none⟩)
      | 6 => s 6 = .pointer (some ⟨R, 1, none⟩)
      | 7 => s 7 = .int .i64 (k : Int)
      | 8 => s 8 = .pointer (some ⟨b, off + k * 4, none⟩)
      | 9 => s 9 = .agg #[.int .i64 (3), sV [33], .int .i64 tv, .int .i64 tp]
      | 10 => ∃ g, s 10 = .pointer (some ⟨g, 0, none⟩) ∧ w1.heap.size ≤ g ∧ W.heap[g]? = some (.cells #[.int .i64 0, .string { data := #[] }, .int .i64 0, .int .i64 0] 36)
      | _ => True)
    (fun i => [i])
    (by
      intro i s s' W W' h hs hE
      have hs := hs i (by simp)
      match i, h, hs with
      | 0, h, hs => exact hs.trans h
      | 1, h, hs => exact hs.trans h
      | 2, h, hs => exact hs.trans h
      | 3, h, hs => exact hs.trans h
      | 4, h, hs => exact hs.trans h
      | 5, h, hs => exact hs.trans h
      | 6, h, hs => exact hs.trans h
      | 7, h, hs => exact hs.trans h
      | 8, h, hs => exact hs.trans h
      | 9, h, hs => exact hs.trans h
      | 10, ⟨g, h1, h2, h3⟩, hs => exact ⟨g, hs.trans h1, h2, (hE.below.block _ (lt_of_block h3)).trans h3⟩
      | i + 11, h, hs => exact trivial)
    (by kernel_rfl) (by kernel_rfl) (by kernel_rfl) 128 rfl (by kernel_rfl) (by kernel_rfl) ?_ ?_
  · intro i op ho a' W hA
    have x0 := Ext.cellE X0.out hA.rel
    have x1 := Ext.cellE X1.out hA.rel
    have y0 := Ext.cellE Y0.out hA.rel
    have y1 := Ext.cellE Y1.out hA.rel
    have y2 := Ext.cellE Y2.out hA.rel
    have y3 := Ext.cellE Y3.out hA.rel
    match i, ho with
    | 0, ho =>
      obtain rfl := Option.some.inj ho
      have e1 : a'.eval (.tmp 0) = .pointer (some ⟨R, 0, none⟩) := hA.keep 0 (by kernel_rfl)
      refine GoesG.value (.pointer (some ⟨R, 0, none⟩)) rfl ?_ (Below.refl _ _) (fun s h1 h2 => h1 rfl)
      simp only [execOp, e1]
      simp [go_sem, x0, x1, y0, y1, y2, y3, hkc, hkn, hk0]
    | 1, ho =>
      obtain rfl := Option.some.inj ho
      have e1 : a'.eval (.tmp 21) = .pointer (some ⟨R, 0, none⟩) := (sv_dst (l := _) rfl).symm.trans (hA.new 0 (by decide) (by kernel_rfl))
      refine GoesG.value (.pointer (some ⟨R, 0, none⟩)) rfl ?_ (Below.refl _ _) (fun s h1 h2 => h1 rfl)
      simp only [execOp, e1]
      simp [go_sem, x0, x1, y0, y1, y2, y3, hkc, hkn, hk0]
    | 2, ho =>
      obtain rfl := Option.some.inj ho
      have e1 : a'.eval (.tmp 22) = .pointer (some ⟨R, 0, none⟩) := (sv_dst (l := _) rfl).symm.trans (hA.new 1 (by decide) (by kernel_rfl))
      refine GoesG.value (.pointer (some ⟨R, 0, none⟩)) rfl ?_ (Below.refl _ _) (fun s h1 h2 => h1 rfl)
      simp only [execOp, e1]
      simp [go_sem, x0, x1, y0, y1, y2, y3, hkc, hkn, hk0]
    | 3, ho =>
      obtain rfl := Option.some.inj ho
      have e1 : a'.eval (.tmp 23) = .pointer (some ⟨R, 0, none⟩) := (sv_dst (l := _) rfl).symm.trans (hA.new 2 (by decide) (by kernel_rfl))
      refine GoesG.value (.slice (some ⟨b, off, none⟩) n c) rfl ?_ (Below.refl _ _) (fun s h1 h2 => h1 rfl)
      simp only [execOp, e1]
      simp [go_sem, x0, x1, y0, y1, y2, y3, hkc, hkn, hk0]
    | 4, ho =>
      obtain rfl := Option.some.inj ho
      have e1 : a'.eval (.tmp 0) = .pointer (some ⟨R, 0, none⟩) := hA.keep 0 (by kernel_rfl)
      refine GoesG.value (.pointer (some ⟨R, 0, none⟩)) rfl ?_ (Below.refl _ _) (fun s h1 h2 => h1 rfl)
      simp only [execOp, e1]
      simp [go_sem, x0, x1, y0, y1, y2, y3, hkc, hkn, hk0]
    | 5, ho =>
      obtain rfl := Option.some.inj ho
      have e1 : a'.eval (.tmp 25) = .pointer (some ⟨R, 0, none⟩) := (sv_dst (l := _) rfl).symm.trans (hA.new 4 (by decide) (by kernel_rfl))
      refine GoesG.value (.pointer (some ⟨R, 0, none⟩)) rfl ?_ (Below.refl _ _) (fun s h1 h2 => h1 rfl)
      simp only [execOp, e1]
      simp [go_sem, x0, x1, y0, y1, y2, y3, hkc, hkn, hk0]
    | 6, ho =>
      obtain rfl := Option.some.inj ho
      have e1 : a'.eval (.tmp 26) = .pointer (some ⟨R, 0, none⟩) := (sv_dst (l := _) rfl).symm.trans (hA.new 5 (by decide) (by kernel_rfl))
      refine GoesG.value (.pointer (some ⟨R, 1, none⟩)) rfl ?_ (Below.refl _ _) (fun s h1 h2 => h1 rfl)
      simp only [execOp, e1]
      simp [go_sem, x0, x1, y0, y1, y2, y3, hkc, hkn, hk0]
    | 7, ho =>
      obtain rfl := Option.some.inj ho
      have e1 : a'.eval (.tmp 27) = .pointer (some ⟨R, 1, none⟩) := (sv_dst (l := _) rfl).symm.trans (hA.new 6 (by decide) (by kernel_rfl))
      refine GoesG.value (.int .i64 (k : Int)) rfl ?_ (Below.refl _ _) (fun s h1 h2 => h1 rfl)
      simp only [execOp, e1]
      simp [go_sem, x0, x1, y0, y1, y2, y3, hkc, hkn, hk0]
    | 8, ho =>
      obtain rfl := Option.some.inj ho
      have e1 : a'.eval (.tmp 24) = .slice (some ⟨b, off, none⟩) n c := (sv_dst (l := _) rfl).symm.trans (hA.new 3 (by decide) (by kernel_rfl))
      have e2 : a'.eval (.tmp 28) = .int .i64 (k : Int) := (sv_dst (l := _) rfl).symm.trans (hA.new 7 (by decide) (by kernel_rfl))
      refine GoesG.value (.pointer (some ⟨b, off + k * 4, none⟩)) rfl ?_ (Below.refl _ _) (fun s h1 h2 => h1 rfl)
      simp only [execOp, e1, e2]
      simp [go_sem, x0, x1, y0, y1, y2, y3, hkc, hkn, hk0]
    | 9, ho =>
      obtain rfl := Option.some.inj ho
      have e1 : a'.eval (.tmp 29) = .pointer (some ⟨b, off + k * 4, none⟩) := (sv_dst (l := _) rfl).symm.trans (hA.new 8 (by decide) (by kernel_rfl))
      refine GoesG.value (.agg #[.int .i64 (3), sV [33], .int .i64 tv, .int .i64 tp]) rfl ?_ (Below.refl _ _) (fun s h1 h2 => h1 rfl)
      simp only [execOp, e1]
      simp [go_sem, x0, x1, y0, y1, y2, y3, hkc, hkn, hk0]
    | 10, ho =>
      obtain rfl := Option.some.inj ho
      refine GoesG.value (.pointer (some ⟨W.heap.size, 0, none⟩)) (W' := W.alloc (.cells #[.int .i64 0, .string { data := #[] }, .int .i64 0, .int .i64 0] 36)) rfl ?_ (ext_alloc _ _) (fun s h1 h2 => ⟨W.heap.size, h1 rfl, hA.rel.size, alloc_here _ _⟩)
      simp only [execOp]
      simp [go_sem, sB_nil]
    | i + 11, ho => cases ho
  · intro vs w4 hvs hG hΦ
    obtain ⟨z0, z1, z2, z3, z4, z5, z6, z7, z8, z9, z10, rfl⟩ : ∃ z0 z1 z2 z3 z4 z5 z6 z7 z8 z9 z10, vs = z0 :: z1 :: z2 :: z3 :: z4 :: z5 :: z6 :: z7 :: z8 :: z9 :: z10 :: [] := by
      match vs, hvs with
      | y0 :: y1 :: y2 :: y3 :: y4 :: y5 :: y6 :: y7 :: y8 :: y9 :: y10 :: [], _ => exact ⟨y0, y1, y2, y3, y4, y5, y6, y7, y8, y9, y10, rfl⟩
    have e0 : z0 = .pointer (some ⟨R, 0, none⟩) := hΦ 0 (by decide)
    subst e0
    have e1 : z1 = .pointer (some ⟨R, 0, none⟩) := hΦ 1 (by decide)
    subst e1
    have e2 : z2 = .pointer (some ⟨R, 0, none⟩) := hΦ 2 (by decide)
    subst e2
    have e3 : z3 = .slice (some ⟨b, off, none⟩) n c := hΦ 3 (by decide)
    subst e3
    have e4 : z4 = .pointer (some ⟨R, 0, none⟩) := hΦ 4 (by decide)
    subst e4
    have e5 : z5 = .pointer (some ⟨R, 0, none⟩) := hΦ 5 (by decide)
    subst e5
    have e6 : z6 = .pointer (some ⟨R, 1, none⟩) := hΦ 6 (by decide)
    subst e6
    have e7 : z7 = .int .i64 (k : Int) := hΦ 7 (by decide)
    subst e7
    have e8 : z8 = .pointer (some ⟨b, off + k * 4, none⟩) := hΦ 8 (by decide)
    subst e8
    have e9 : z9 = .agg #[.int .i64 (3), sV [33], .int .i64 tv, .int .i64 tp] := hΦ 9 (by decide)
    subst e9
    have p10 : ∃ g, z10 = .pointer (some ⟨g, 0, none⟩) ∧ w1.heap.size ≤ g ∧ w4.heap[g]? = some (.cells #[.int .i64 0, .string { data := #[] }, .int .i64 0, .int .i64 0] 36) := hΦ 10 (by decide)
    clear hΦ hvs
    simp only [putAll, Act.put, List.setIfInBounds_toArray, List.set_cons_succ, List.set_cons_zero]
    obtain ⟨g, rfl, hg1, hg2⟩ := p10
    have e0 := cell_of (i := 0) hg2 rfl
    have e1 := cell_of (i := 1) hg2 rfl
    have e2 := cell_of (i := 2) hg2 rfl
    have e3 := cell_of (i := 3) hg2 rfl
    have f0 : ∀ i, w4.frozen? ⟨g, i, none⟩ = false := fun i => free_of hg2
    have HG2 := Lib.hid hg2
    have HG1 := Lib.hid hg1
    have HG := Lib.hid hG
    clear hg1 hg2 hG
    go_upto_region 4 with fail
    obtain ⟨w5, hw5, hg5, hB5, hO5⟩ := put4 HG2.out rfl (.int .i64 (3)) (sV [33]) (.int .i64 tv) (.int .i64 tp)
    rw [hw5]
    have HX5 := Lib.hid (show Ext w w5 from Below.trans (Below.trans HX1.out (HG.out.below.mono HX1.out.size)) (hB5 _ (Nat.le_trans HX1.out.size HG1.out)))
    have HBN := Lib.hid (show w.heap.size < g from Nat.lt_of_lt_of_le (lt_of_block HZ1.out) HG1.out)
    have hr5 : w5.heap[R]? = some (rdO (some ⟨b, off, none⟩) n c k) := (HX5.out.below.block _ HRl.out).trans HR0.out
    have HZ5 := Lib.hid (show w5.heap[w.heap.size]? = some (.cells #[.int .i64 0, .int .i64 0, .string { data := #[] }, .int .i64 0, .slice none 0 0] 25) from (hO5 _ (by have := HBN.out; omega)).trans ((HG.out.below.block _ (lt_of_block HZ1.out)).trans HZ1.out))
    have HG5 := Lib.hid hg5
    have HR5 := Lib.hid hr5
    have d0 : w5.cell? ⟨R, 0, none⟩ = some (.slice (some ⟨b, off, none⟩) n c) := cell_of hr5 rfl
    have d1 : w5.cell? ⟨R, 1, none⟩ = some (.int .i64 (k : Int)) := cell_of hr5 rfl
    have g0 : ∀ i, w5.frozen? ⟨R, i, none⟩ = false := fun i => free_of hr5
    clear hw5 hg5 hB5 hO5 hr5 e0 e1 e2 e3 f0 X0 X1 Y0 Y1 Y2 Y3 HG HG2
    go_upto_region 5 with fail
    obtain ⟨w6, hw6⟩ : ∃ W, w5.setCell ⟨R, 1, none⟩ (.int .i64 ((k : Int) + 1)) = W := ⟨_, rfl⟩
    rw [hw6]
    have HR6 := Lib.hid (show w6.heap[R]? = some (rdO (some ⟨b, off, none⟩) n c (k + 1)) from by
      have h := ((Turn.refl HR5.out).setCell (i := 1) (.int .i64 ((k : Int) + 1))).here
      rw [hw6] at h
      rw [h]; simp)
    have HO6 := Lib.hid (show Oth R w w6 from by rw [← hw6]; exact (Oth.of_ext HX5.out).trans (Oth.set R 1 _ w5))
    have HZ6 := Lib.hid (show w6.heap[w.heap.size]? = some (.cells #[.int .i64 0, .int .i64 0, .string { data := #[] }, .int .i64 0, .slice none 0 0] 25) from by rw [← hw6]; exact (Below.heap_setCell _ _ _ _ (by have := HRl.out; show w.heap.size ≠ R; omega)).trans HZ5.out)
    have hg6 : w6.heap[g]? = some (.cells #[.int .i64 (3), sV [33], .int .i64 tv, .int .i64 tp] tTk) := by rw [← hw6]; exact (Below.heap_setCell _ _ _ _ (by have := HRl.out; have := HBN.out; show g ≠ R; omega)).trans HG5.out
    have HG6 := Lib.hid hg6
    have HL6 := Lib.hid (show Below w0.heap.size w0 w6 from Below.trans HB0.out (HO6.out.below HE.out.low HB0.out.size))
    have e0 := cell_of (i := 0) hg6 rfl
    have e1 := cell_of (i := 1) hg6 rfl
    have e2 := cell_of (i := 2) hg6 rfl
    have e3 := cell_of (i := 3) hg6 rfl
    clear hw6 d0 d1 g0 HR5 HG5 HZ5 HX5 hg6 HZ1 HX1
    obtain ⟨k1, o1, n1, v1, ts⟩ := e
    go_wp2_with fail
    refine (KC.out _ HL6.out HR6.out).mono ?_
    rintro _ w7 ⟨q, cc, rfl, hA, hO, hr⟩
    dsimp only [Ex.val, Ex.kind, Ex.op, Ex.name, Ex.value, Ex.args]
    have HA := Lib.hid hA
    have HO7 := Lib.hid (HO6.out.trans hO)
    have HR7 := Lib.hid hr
    have hz7 := (hO.other _ (lt_of_block HZ6.out) (by have := HRl.out; omega)).trans HZ6.out
    have HS6 := Lib.hid (show w.heap.size < w6.heap.size from lt_of_block HZ6.out)
    clear hA hO hr e0 e1 e2 e3
    obtain ⟨m, hm⟩ : ∃ m, ts.length = m := ⟨_, rfl⟩
    rw [hm]
    have HM := Lib.hid hm
    clear hm
    have hl7 := lt_of_block hz7
    have HL7 := Lib.hid hl7
    have hz8 := (Below.heap_alloc w7 (.cells #[.int .i64 k1, .int .i64 o1, sV n1, .int .i64 v1, .slice q m cc] tEx) w.heap.size hl7).trans hz7
    have HX8 := Lib.hid (ext_alloc w7 (.cells #[.int .i64 k1, .int .i64 o1, sV n1, .int .i64 v1, .slice q m cc] tEx))
    have HB8 := Lib.hid (alloc_here w7 (.cells #[.int .i64 k1, .int .i64 o1, sV n1, .int .i64 v1, .slice q m cc] tEx))
    have z0 : (w7.alloc (.cells #[.int .i64 k1, .int .i64 o1, sV n1, .int .i64 v1, .slice q m cc] tEx)).cell? ⟨w.heap.size, 0, none⟩ = some (.int .i64 0) := cell_of hz8 rfl
    have z1 : (w7.alloc (.cells #[.int .i64 k1, .int .i64 o1, sV n1, .int .i64 v1, .slice q m cc] tEx)).cell? ⟨w.heap.size, 1, none⟩ = some (.int .i64 0) := cell_of hz8 rfl
    have z2 : (w7.alloc (.cells #[.int .i64 k1, .int .i64 o1, sV n1, .int .i64 v1, .slice q m cc] tEx)).cell? ⟨w.heap.size, 2, none⟩ = some (.string { data := #[] }) := cell_of hz8 rfl
    have z3 : (w7.alloc (.cells #[.int .i64 k1, .int .i64 o1, sV n1, .int .i64 v1, .slice q m cc] tEx)).cell? ⟨w.heap.size, 3, none⟩ = some (.int .i64 0) := cell_of hz8 rfl
    have z4 : (w7.alloc (.cells #[.int .i64 k1, .int .i64 o1, sV n1, .int .i64 v1, .slice q m cc] tEx)).cell? ⟨w.heap.size, 4, none⟩ = some (.slice none 0 0) := cell_of hz8 rfl
    have zf : ∀ i, (w7.alloc (.cells #[.int .i64 k1, .int .i64 o1, sV n1, .int .i64 v1, .slice q m cc] tEx)).frozen? ⟨w.heap.size, i, none⟩ = false := fun i => free_of hz8
    have HZ8 := Lib.hid hz8
    clear hz7 hz8 hl7
    go_wp2
    generalize w7.alloc (.cells #[.int .i64 k1, .int .i64 o1, sV n1, .int .i64 v1, .slice q m cc] tEx) = w8 at *
    have HR8 := Lib.hid ((HX8.out.below.block _ (lt_of_block HR7.out)).trans HR7.out)
    have HO8 := Lib.hid (HO7.out.trans (Oth.of_ext HX8.out))
    clear z0 z1 z2 z3 z4 zf
    obtain ⟨W', hW', h3, h4, h5⟩ := put5n HZ8.out rfl (.int .i64 3) (.int .i64 2) (.string { data := #[] }) (.int .i64 0) (.slice (some ⟨w7.heap.size, 0, none⟩) 1 1)
    rw [hW']
    have z0 := cell_of (i := 0) h3 rfl
    have z1 := cell_of (i := 1) h3 rfl
    have z2 := cell_of (i := 2) h3 rfl
    have z3 := cell_of (i := 3) h3 rfl
    have z4 := cell_of (i := 4) h3 rfl
    exact bodyPost_ret (v := .agg #[.int .i64 3, .int .i64 2, .string { data := #[] }, .int .i64 0, .slice (some ⟨w7.heap.size, 0, none⟩) 1 1]) (by simp [results, Tryz.f91, go_sem, z0, z1, z2, z3, z4]) rfl ⟨some ⟨w7.heap.size, 0, none⟩, 1, by first | rfl | (rw [sB_nil]; rfl), at_un (by decide) (by have h := (h5 _ (by have := HL7.out; omega)).trans HB8.out; rw [← HM.out] at h; exact h) (by have := HL7.out; omega) (((HA.out.ext HX8.out).imp (fun b hb _ => hb)).keep (fun b hb hl => ⟨by have := HS6.out; omega, h5 b (by have := HS6.out; omega)⟩)), HO8.out.then (h4 _ (Nat.le_refl _)), (h5 R (by have := HRl.out; omega)).trans HR8.out⟩

set_option maxRecDepth 100000 in
set_option maxHeartbeats 8000000 in
theorem operand_noB {w0 : World} {R : Nat} {p : Option Addr} {c : Nat} {l : List Tk} (hE : RdE w0 R p c l) (k : Nat) (hk : k < l.length) (h1 : l[k].kind = 3) (h2 : l[k].text = [33]) (IO : OpC w0 R p c l (k + 1)) (j : Nat) (hR : Rd l .opd (k + 1) (.bad j)) (w : World) (hb : Below w0.heap.size w0 w) (hrd : w.heap[R]? = some (rdO p l.length c k)) :
    Calls Tryz.prog 91 #[.pointer (some ⟨R, 0, none⟩)] w (Got R p l.length c w (.bad j)) := by
  obtain ⟨b, off, rfl, q0, q1, q2, q3⟩ := hE.tks k hk
  have HE := Lib.hid hE
  have HB0 := Lib.hid hb
  have HR0 := Lib.hid hrd
  have HRl := Lib.hid (lt_of_block hrd)
  have HRb := Lib.hid (show b ≠ R from fun e => by have h1 := cell_lt' q0; have h2 := hE.low; simp only at h1; omega)
  have d0 : w.cell? ⟨R, 0, none⟩ = some (.slice (some ⟨b, off, none⟩) l.length c) := cell_of hrd rfl
  have d1 : w.cell? ⟨R, 1, none⟩ = some (.int .i64 (k : Int)) := cell_of hrd rfl
  have c0 := (hb.cell (p := ⟨b, off + k * 4, none⟩) (cell_lt' q0)).trans q0
  have c1 := (hb.cell (p := ⟨b, off + k * 4 + 1, none⟩) (cell_lt' q1)).trans q1
  have c2 := (hb.cell (p := ⟨b, off + k * 4 + 2, none⟩) (cell_lt' q2)).trans q2
  have c3 := (hb.cell (p := ⟨b, off + k * 4 + 3, none⟩) (cell_lt' q3)).trans q3
  have hn9 := hE.len
  have hcap := hE.cap
  clear q0 q1 q2 q3
  have htx : (l[k]).text.length ≤ 140737488351232 := hE.txt _ (List.getElem_mem hk)
  generalize l[k] = t at *
  obtain ⟨tk, tx, tv, tp⟩ := t
  dsimp only at *
  have KC := Lib.hid (fun W hb hr => IO W _ hb hr hR)
  clear IO hR
  obtain ⟨n, hn⟩ : ∃ n, l.length = n := ⟨_, rfl⟩
  rw [hn] at hk hrd HR0 hn9 hcap d0 KC
  rw [hn]
  have HN := Lib.hid hn
  clear hn
  have X0 := Lib.hid d0
  have X1 := Lib.hid d1
  have Y0 := Lib.hid c0
  have Y1 := Lib.hid c1
  have Y2 := Lib.hid c2
  have Y3 := Lib.hid c3
  clear c0 c1 c2 c3 hE hb hrd
  subst h1
  subst h2
  have q45 : (sB [33] == { data := #[45] }) = false := by show (sB [33] == sB [45]) = false; rw [sB_beq]; rfl
  have q33 : (sB [33] == { data := #[33] }) = true := by show (sB [33] == sB [33]) = true; rw [sB_beq]; rfl

  have hkn : (k : Int) < (n : Int) := by omega
  have hkc : k < n := hk
  have hk0 : (0 : Int) ≤ (k : Int) := by omega
  have hge : ¬ (n : Int) ≤ (k : Int) := by omega
  have hge2 : ¬ n ≤ k := by omega
  have hRl := HRl.out
  go_enter Tryz.func91, Tryz.ntmps91
  go_wp2
  go_quiet (fail)
  go_wp2
  obtain ⟨w1, hw1⟩ : ∃ W, W = World.drewN (w.alloc (.cells #[.int .i64 0, .int .i64 0, .string { data := #[] }, .int .i64 0, .slice none 0 0] 25)) nq := ⟨_, rfl⟩
  have HX1 := Lib.hid (show Ext w w1 by rw [hw1]; exact Ext.drewN' (ext_alloc w _))
  have HZ1 := Lib.hid (show w1.heap[w.heap.size]? = some (.cells #[.int .i64 0, .int .i64 0, .string { data := #[] }, .int .i64 0, .slice none 0 0] 25) by rw [hw1]; exact alloc_here w _)
  change Code.wp _ _ _ _ (World.drewN (w.alloc (.cells #[.int .i64 0, .int .i64 0, .string { data := #[] }, .int .i64 0, .slice none 0 0] 25)) nq)
  rw [← hw1]
  clear hw1 d0 d1
  replace X0 := Lib.hid (Ext.cellE X0.out HX1.out)
  replace X1 := Lib.hid (Ext.cellE X1.out HX1.out)
  replace Y0 := Lib.hid (Ext.cellE Y0.out HX1.out)
  replace Y1 := Lib.hid (Ext.cellE Y1.out HX1.out)
  replace Y2 := Lib.hid (Ext.cellE Y2.out HX1.out)
  replace Y3 := Lib.hid (Ext.cellE Y3.out HX1.out)
  refine wp_region_tail (l1 := [_, _, _, _, _, _, _, _, _, _, _]) (l2 := [_]) (by kernel_rfl) Ext (fun W => Below.refl _ W) (fun W => show Below W.heap.size W { W with drawn := W.drawn + 1 } from ⟨rfl, rfl, rfl, Nat.le_refl _, fun _ _ => rfl⟩) Ext.trans
    (fun i s W => match i with
      | 0 => s 0 = .pointer (some ⟨R, 0, none⟩)
      | 1 => s 1 = .pointer (some ⟨R, 0, none⟩)
      | 2 => s 2 = .pointer (some ⟨R, 0, none⟩)
      | 3 => s 3 = .slice (some ⟨b, off, none⟩) n c
      | 4 => s 4 = .pointer (some ⟨R, 0, none⟩)
      | 5 => s 5 = .pointer (some ⟨R, 0, none⟩)
      | 6 => s 6 = .pointer (some ⟨R, 1, none⟩)
      | 7 => s 7 = .int .i64 (k : Int)
      | 8 => s 8 = .pointer (some ⟨b, off + k * 4, none⟩)
      | 9 => s 9 = .agg #[.int .i64 (3), sV [33], .int .i64 tv, .int .i64 tp]
      | 10 => ∃ g, s 10 = .pointer (some ⟨g, 0, none⟩) ∧ w1.heap.size ≤ g ∧ W.heap[g]? = some (.cells #[.int .i64 0, .string { data := #[] }, .int .i64 0, .int .i64 0] 36)
      | _ => True)
    (fun i => [i])
    (by
      intro i s s' W W' h hs hE
      have hs := hs i (by simp)
      match i, h, hs with
      | 0, h, hs => exact hs.trans h
      | 1, h, hs => exact hs.trans h
      | 2, h, hs => exact hs.trans h
      | 3, h, hs => exact hs.trans h
      | 4, h, hs => exact hs.trans h
      | 5, h, hs => exact hs.trans h
      | 6, h, hs => exact hs.trans h
      | 7, h, hs => exact hs.trans h
      | 8, h, hs => exact hs.trans h
      | 9, h, hs => exact hs.trans h
      | 10, ⟨g, h1, h2, h3⟩, hs => exact ⟨g, hs.trans h1, h2, (hE.below.block _ (lt_of_block h3)).trans h3⟩
      | i + 11, h, hs => exact trivial)
    (by kernel_rfl) (by kernel_rfl) (by kernel_rfl) 128 rfl (by kernel_rfl) (by kernel_rfl) ?_ ?_
  · intro i op ho a' W hA
    have x0 := Ext.cellE X0.out hA.rel
    have x1 := Ext.cellE X1.out hA.rel
    have y0 := Ext.cellE Y0.out hA.rel
    have y1 := Ext.cellE Y1.out hA.rel
    have y2 := Ext.cellE Y2.out hA.rel
    have y3 := Ext.cellE Y3.out hA.rel
    match i, ho with
    | 0, ho =>
      obtain rfl := Option.some.inj ho
      have e1 : a'.eval (.tmp 0) = .pointer (some ⟨R, 0, none⟩) := hA.keep 0 (by kernel_rfl)
      refine GoesG.value (.pointer (some ⟨R, 0, none⟩)) rfl ?_ (Below.refl _ _) (fun s h1 h2 => h1 rfl)
      simp only [execOp, e1]
      simp [go_sem, x0, x1, y0, y1, y2, y3, hkc, hkn, hk0]
    | 1, ho =>
      obtain rfl := Option.some.inj ho
      have e1 : a'.eval (.tmp 21) = .pointer (some ⟨R, 0, none⟩) := (sv_dst (l := _) rfl).symm.trans (hA.new 0 (by decide) (by kernel_rfl))
      refine GoesG.value (.pointer (some ⟨R, 0, none⟩)) rfl ?_ (Below.refl _ _) (fun s h1 h2 => h1 rfl)
      simp only [execOp, e1]
      simp [go_sem, x0, x1, y0, y1, y2, y3, hkc, hkn, hk0]
    | 2, ho =>
      obtain rfl := Option.some.inj ho
      have e1 : a'.eval (.tmp 22) = .pointer (some ⟨R, 0, none⟩) := (sv_dst (l := _) rfl).symm.trans (hA.new 1 (by decide) (by kernel_rfl))
      refine GoesG.value (.pointer (some ⟨R, 0, none⟩)) rfl ?_ (Below.refl _ _) (fun s h1 h2 => h1 rfl)
      simp only [execOp, e1]
      simp [go_sem, x0, x1, y0, y1, y2, y3, hkc, hkn, hk0]
    | 3, ho =>
      obtain rfl := Option.some.inj ho
      have e1 : a'.eval (.tmp 23) = .pointer (some ⟨R, 0, none⟩) := (sv_dst (l := _) rfl).symm.trans (hA.new 2 (by decide) (by kernel_rfl))
      refine GoesG.value (.slice (some ⟨b, off, none⟩) n c) rfl ?_ (Below.refl _ _) (fun s h1 h2 => h1 rfl)
      simp only [execOp, e1]
      simp [go_sem, x0, x1, y0, y1, y2, y3, hkc, hkn, hk0]
    | 4, ho =>
      obtain rfl := Option.some.inj ho
      have e1 : a'.eval (.tmp 0) = .pointer (some ⟨R, 0, none⟩) := hA.keep 0 (by kernel_rfl)
      refine GoesG.value (.pointer (some ⟨R, 0, none⟩)) rfl ?_ (Below.refl _ _) (fun s h1 h2 => h1 rfl)
      simp only [execOp, e1]
      simp [go_sem, x0, x1, y0, y1, y2, y3, hkc, hkn, hk0]
    | 5, ho =>
      obtain rfl := Option.some.inj ho
      have e1 : a'.eval (.tmp 25) = .pointer (some ⟨R, 0, none⟩) := (sv_dst (l := _) rfl).symm.trans (hA.new 4 (by decide) (by kernel_rfl))
      refine GoesG.value (.pointer (some ⟨R, 0, none⟩)) rfl ?_ (Below.refl _ _) (fun s h1 h2 => h1 rfl)
      simp only [execOp, e1]
      simp [go_sem, x0, x1, y0, y1, y2, y3, hkc, hkn, hk0]
    | 6, ho =>
      obtain rfl := Option.some.inj ho
      have e1 : a'.eval (.tmp 26) = .pointer (some ⟨R, 0, none⟩) := (sv_dst (l := _) rfl).symm.trans (hA.new 5 (by decide) (by kernel_rfl))
      refine GoesG.value (.pointer (some ⟨R, 1, none⟩)) rfl ?_ (Below.refl _ _) (fun s h1 h2 => h1 rfl)
      simp only [execOp, e1]
      simp [go_sem, x0, x1, y0, y1, y2, y3, hkc, hkn, hk0]
    | 7, ho =>
      obtain rfl := Option.some.inj ho
      have e1 : a'.eval (.tmp 27) = .pointer (some ⟨R, 1, none⟩) := (sv_dst (l := _) rfl).symm.trans (hA.new 6 (by decide) (by kernel_rfl))
      refine GoesG.value (.int .i64 (k : Int)) rfl ?_ (Below.refl _ _) (fun s h1 h2 => h1 rfl)
      simp only [execOp, e1]
      simp [go_sem, x0, x1, y0, y1, y2, y3, hkc, hkn, hk0]
    | 8, ho =>
      obtain rfl := Option.some.inj ho
      have e1 : a'.eval (.tmp 24) = .slice (some ⟨b, off, none⟩) n c := (sv_dst (l := _) rfl).symm.trans (hA.new 3 (by decide) (by kernel_rfl))
      have e2 : a'.eval (.tmp 28) = .int .i64 (k : Int) := (sv_dst (l := _) rfl).symm.trans (hA.new 7 (by decide) (by kernel_rfl))
      refine GoesG.value (.pointer (some ⟨b, off + k * 4, none⟩)) rfl ?_ (Below.refl _ _) (fun s h1 h2 => h1 rfl)
      simp only [execOp, e1, e2]
      simp [go_sem, x0, x1, y0, y1, y2, y3, hkc, hkn, hk0]
    | 9, ho =>
      obtain rfl := Option.some.inj ho
      have e1 : a'.eval (.tmp 29) = .pointer (some ⟨b, off + k * 4, none⟩) := (sv_dst (l := _) rfl).symm.trans (hA.new 8 (by decide) (by kernel_rfl))
      refine GoesG.value (.agg #[.int .i64 (3), sV [33], .int .i64 tv, .int .i64 tp]) rfl ?_ (Below.refl _ _) (fun s h1 h2 => h1 rfl)
      simp only [execOp, e1]
      simp [go_sem, x0, x1, y0, y1, y2, y3, hkc, hkn, hk0]
    | 10, ho =>
      obtain rfl := Option.some.inj ho
      refine GoesG.value (.pointer (some ⟨W.heap.size, 0, none⟩)) (W' := W.alloc (.cells #[.int .i64 0, .string { data := #[] }, .int .i64 0, .int .i64 0] 36)) rfl ?_ (ext_alloc _ _) (fun s h1 h2 => ⟨W.heap.size, h1 rfl, hA.rel.size, alloc_here _ _⟩)
      simp only [execOp]
      simp [go_sem, sB_nil]
    | i + 11, ho => cases ho
  · intro vs w4 hvs hG hΦ
    obtain ⟨z0, z1, z2, z3, z4, z5, z6, z7, z8, z9, z10, rfl⟩ : ∃ z0 z1 z2 z3 z4 z5 z6 z7 z8 z9 z10, vs = z0 :: z1 :: z2 :: z3 :: z4 :: z5 :: z6 :: z7 :: z8 :: z9 :: z10 :: [] := by
      match vs, hvs with
      | y0 :: y1 :: y2 :: y3 :: y4 :: y5 :: y6 :: y7 :: y8 :: y9 :: y10 :: [], _ => exact ⟨y0, y1, y2, y3, y4, y5, y6, y7, y8, y9, y10, rfl⟩
    have e0 : z0 = .pointer (some ⟨R, 0, none⟩) := hΦ 0 (by decide)
    subst e0
    have e1 : z1 = .pointer (some ⟨R, 0, none⟩) := hΦ 1 (by decide)
    subst e1
    have e2 : z2 = .pointer (some ⟨R, 0, none⟩) := hΦ 2 (by decide)
    subst e2
    have e3 : z3 = .slice (some ⟨b, off, none⟩) n c := hΦ 3 (by decide)
    subst e3
    have e4 : z4 = .pointer (some ⟨R, 0, none⟩) := hΦ 4 (by decide)
    subst e4
    have e5 : z5 = .pointer (some ⟨R, 0, none⟩) := hΦ 5 (by decide)
    subst e5
    have e6 : z6 = .pointer (some ⟨R, 1, none⟩) := hΦ 6 (by decide)
    subst e6
    have e7 : z7 = .int .i64 (k : Int) := hΦ 7 (by decide)
    subst e7
    have e8 : z8 = .pointer (some ⟨b, off + k * 4, none⟩) := hΦ 8 (by decide)
    subst e8
    have e9 : z9 = .agg #[.int .i64 (3), sV [33], .int .i64 tv, .int .i64 tp] := hΦ 9 (by decide)
    subst e9
    have p10 : ∃ g, z10 = .pointer (some ⟨g, 0, none⟩) ∧ w1.heap.size ≤ g ∧ w4.heap[g]? = some (.cells #[.int .i64 0, .string { data := #[] }, .int .i64 0, .int .i64 0] 36) := hΦ 10 (by decide)
    clear hΦ hvs
    simp only [putAll, Act.put, List.setIfInBounds_toArray, List.set_cons_succ, List.set_cons_zero]
    obtain ⟨g, rfl, hg1, hg2⟩ := p10
    have e0 := cell_of (i := 0) hg2 rfl
    have e1 := cell_of (i := 1) hg2 rfl
    have e2 := cell_of (i := 2) hg2 rfl
    have e3 := cell_of (i := 3) hg2 rfl
    have f0 : ∀ i, w4.frozen? ⟨g, i, none⟩ = false := fun i => free_of hg2
    have HG2 := Lib.hid hg2
    have HG1 := Lib.hid hg1
    have HG := Lib.hid hG
    clear hg1 hg2 hG
    go_upto_region 4 with fail
    obtain ⟨w5, hw5, hg5, hB5, hO5⟩ := put4 HG2.out rfl (.int .i64 (3)) (sV [33]) (.int .i64 tv) (.int .i64 tp)
    rw [hw5]
    have HX5 := Lib.hid (show Ext w w5 from Below.trans (Below.trans HX1.out (HG.out.below.mono HX1.out.size)) (hB5 _ (Nat.le_trans HX1.out.size HG1.out)))
    have HBN := Lib.hid (show w.heap.size < g from Nat.lt_of_lt_of_le (lt_of_block HZ1.out) HG1.out)
    have hr5 : w5.heap[R]? = some (rdO (some ⟨b, off, none⟩) n c k) := (HX5.out.below.block _ HRl.out).trans HR0.out
    have HZ5 := Lib.hid (show w5.heap[w.heap.size]? = some (.cells #[.int .i64 0, .int .i64 0, .string { data := #[] }, .int .i64 0, .slice none 0 0] 25) from (hO5 _ (by have := HBN.out; omega)).trans ((HG.out.below.block _ (lt_of_block HZ1.out)).trans HZ1.out))
    have HG5 := Lib.hid hg5
    have HR5 := Lib.hid hr5
    have d0 : w5.cell? ⟨R, 0, none⟩ = some (.slice (some ⟨b, off, none⟩) n c) := cell_of hr5 rfl
    have d1 : w5.cell? ⟨R, 1, none⟩ = some (.int .i64 (k : Int)) := cell_of hr5 rfl
    have g0 : ∀ i, w5.frozen? ⟨R, i, none⟩ = false := fun i => free_of hr5
    clear hw5 hg5 hB5 hO5 hr5 e0 e1 e2 e3 f0 X0 X1 Y0 Y1 Y2 Y3 HG HG2
    go_upto_region 5 with fail
    obtain ⟨w6, hw6⟩ : ∃ W, w5.setCell ⟨R, 1, none⟩ (.int .i64 ((k : Int) + 1)) = W := ⟨_, rfl⟩
    rw [hw6]
    have HR6 := Lib.hid (show w6.heap[R]? = some (rdO (some ⟨b, off, none⟩) n c (k + 1)) from by
      have h := ((Turn.refl HR5.out).setCell (i := 1) (.int .i64 ((k : Int) + 1))).here
      rw [hw6] at h
      rw [h]; simp)
    have HO6 := Lib.hid (show Oth R w w6 from by rw [← hw6]; exact (Oth.of_ext HX5.out).trans (Oth.set R 1 _ w5))
    have HZ6 := Lib.hid (show w6.heap[w.heap.size]? = some (.cells #[.int .i64 0, .int .i64 0, .string { data := #[] }, .int .i64 0, .slice none 0 0] 25) from by rw [← hw6]; exact (Below.heap_setCell _ _ _ _ (by have := HRl.out; show w.heap.size ≠ R; omega)).trans HZ5.out)
    have hg6 : w6.heap[g]? = some (.cells #[.int .i64 (3), sV [33], .int .i64 tv, .int .i64 tp] tTk) := by rw [← hw6]; exact (Below.heap_setCell _ _ _ _ (by have := HRl.out; have := HBN.out; show g ≠ R; omega)).trans HG5.out
    have HG6 := Lib.hid hg6
    have HL6 := Lib.hid (show Below w0.heap.size w0 w6 from Below.trans HB0.out (HO6.out.below HE.out.low HB0.out.size))
    have e0 := cell_of (i := 0) hg6 rfl
    have e1 := cell_of (i := 1) hg6 rfl
    have e2 := cell_of (i := 2) hg6 rfl
    have e3 := cell_of (i := 3) hg6 rfl
    clear hw6 d0 d1 g0 HR5 HG5 HZ5 HX5 hg6 HZ1 HX1
    go_wp2_with fail
    refine (KC.out _ HL6.out HR6.out).mono ?_
    rintro _ w7 ⟨rfl, hO⟩
    dsimp only
    exact ⟨rfl, rfl, HO6.out.trans hO⟩

end Go.Proofs.YtmokejjndkibhaaGreatDoor

