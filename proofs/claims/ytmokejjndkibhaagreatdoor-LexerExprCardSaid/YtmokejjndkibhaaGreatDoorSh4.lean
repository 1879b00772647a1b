/- Lemmas and walks for the statements of this seat, part 4, merged from smaller texts: A region that draws its order and ends with a chain: the head by predicates (Rg), the tail walked as a list.; Appending an expression to a row of the call's own.; fold of the reference.; Fold, both.; replaced of the reference.; Substitute's function.; Substitute, both.; An expression is the same as itself; the empty expression.; expr's equal, for any two expressions.; Zero, Equal, and the law's same at one expression.; The plain mathematics of the encoding of integers: base 256 digits, heads. No program here.; codec.digits, codec.integer, codec.fits, codec.Int: their contracts.; codec.integer, codec.fits, codec.Int: their contracts.; The kit's contracts of strings.Builder at this seat's numbers; printed by mk_build.py.; The precedence of an expression.; The Builder's contracts that say what else is kept; WriteByte as a deferred call.; The text of an expression.; argument: an expression in brackets where it must be.; write: the text of an expression onto a Builder: numbers, names, one argument.; write: two arguments.; write and Print.; The reference's same and Equal for any two expressions; its Precedence and Decimal.; The reference's Decimal.; The reference's text and Print. -/
import Derived.Laws.Append
import Derived.RangeFuncBox
import Derived.RangeFuncLeaves
import Derived.RangeFuncNested
import Derived.Shelf.Abstract
import Derived.WalkKit
import Derived.OwnWalkIn
import Derived.TacticsInMore
import Derived.LoopNIn
import Derived.LoopIn
import Derived.Maps.AppendAt
import Derived.Lib.Hide
import Derived.Test.YtmokejjndkibhaaGreatDoorRows
import Derived.Outline
import Derived.Deep.DeepMust
import Derived.Laws.IdiomStrings
import Derived.Shelf.Strings.Builder1
import Derived.Defers
import Derived.Shelf.Strings.BuilderK
import Derived.StillTailTactics
import Derived.Lib.ItoaNum
import Derived.Test.YtmokejjndkibhaaGreatDoorSh2
import Derived.Test.YtmokejjndkibhaaGreatDoorSh3
import Derived.Test.YtmokejjndkibhaaGreatDoorSh1

namespace Go.Proofs.YtmokejjndkibhaaGreatDoor
open Go.RowKit
set_option linter.unusedVariables false

/-- from n on each operation waits for all before it -/
def tailB (l : List Oper) (n : Nat) : Bool := (List.range l.length).all fun j => decide (j < n) || (List.range j).all fun i => ancB l l.length j i
theorem tailB_spec {l : List Oper} {n : Nat} (h : tailB l n = true) {i j : Nat} (hj : j < l.length) (hn : n ≤ j) (hi : i < j) : ancB l l.length j i = true := by
  have h1 := List.all_eq_true.1 h j (List.mem_range.2 hj)
  simp only [Bool.or_eq_true, decide_eq_true_eq] at h1
  rcases h1 with h1 | h1
  · omega
  · exact List.all_eq_true.1 h1 i (List.mem_range.2 hi)

theorem getD_of_lt {listed : Array Bool} {i : Nat} (hi : i < listed.size) (d d' : Bool) : listed.getD i d = listed.getD i d' := by
  simp [Array.getD_eq_getD_getElem?, Array.getElem?_eq_getElem hi]

/-- the tail -/
theorem tail_any {P : Program} {Q : Exit → Act → World → Prop} {l : List Oper} {n : Nat} (hback : backB l = true) (ht : tailB l n = true) :
    ∀ (rest : List Oper) (k : Nat) (listed : Array Bool) (a : Act) (W : World), rest = l.drop k → n ≤ k → k ≤ l.length → listed.size = l.length → (∀ j, j < k → listed.getD j false = true) → (∀ j, k ≤ j → listed.getD j false = false) →
      wpList P l.toArray Q rest a W → wpAny P .any l.toArray Q (l.length - k) listed a W := by
  intro rest
  induction rest with
  | nil =>
    intro k listed a W hr hn hk hs h1 h2 hw
    have hkl : l.length = k := by
      have := congrArg List.length hr
      simp at this; omega
    have h0 : Region.ready .any l.toArray listed = [] := by
      apply List.eq_nil_iff_forall_not_mem.2
      intro i hi
      obtain ⟨g1, o, ho, _⟩ := mem_ready.1 hi
      have hi' : i < l.length := by have := (Array.getElem?_eq_some_iff.1 ho).1; simpa using this
      rw [getD_of_lt (by omega) true false, h1 i (by omega)] at g1
      cases g1
    rw [show l.length - k = 0 by omega]
    exact ⟨h0, hw⟩
  | cons o rest ih =>
    intro k listed a W hr hn hk hs h1 h2 hw
    have hkl : k < l.length := by
      have := congrArg List.length hr
      simp at this; omega
    have hlk : l[k]? = some o := by
      have := congrArg (·[0]?) hr
      simp at this
      simpa using this.symm
    have hrest : rest = l.drop (k + 1) := by
      have := congrArg List.tail hr
      simpa using this
    have hkr : k ∈ Region.ready .any l.toArray listed := by
      rw [mem_ready]
      refine ⟨by rw [getD_of_lt (by omega) true false]; exact h2 k (Nat.le_refl _), o, by simpa using hlk, fun e he hb => ?_⟩
      exact h1 e.on (backB_spec hback hlk he hb)
    rw [show l.length - k = (l.length - (k + 1)) + 1 by omega]
    refine ⟨fun h0 => absurd hkr (by rw [h0]; simp), fun i hi => ?_⟩
    obtain ⟨g1, oi, hoi, hwait⟩ := mem_ready.1 hi
    have hoi' : l[i]? = some oi := by simpa using hoi
    have hil : i < l.length := (List.getElem?_eq_some_iff.1 hoi').1
    have hik : i = k := by
      rw [getD_of_lt (by omega) true false] at g1
      rcases Nat.lt_trichotomy i k with h | h | h
      · rw [h1 i h] at g1; cases g1
      · exact h
      · exfalso
        have ha := tailB_spec ht hil (by omega) h
        revert ha
        cases hL : l.length with
        | zero => omega
        | succ m =>
          intro ha
          unfold ancB at ha
          rw [hoi'] at ha
          obtain ⟨e, he, hh⟩ := List.any_eq_true.1 ha
          simp only [Bool.and_eq_true, Bool.or_eq_true, decide_eq_true_eq] at hh
          have h3 := hwait e (by simpa using he) hh.1
          have h4 : e.on < k := by
            rcases Nat.lt_or_ge e.on k with h5 | h5
            · exact h5
            · rw [h2 e.on h5] at h3; cases h3
          rcases hh.2 with h5 | h5
          · omega
          · have := anc_back hback _ _ _ h5; omega
    subst hik
    have hK : ∀ a' W', wpList P l.toArray Q rest a' W' → wpAny P .any l.toArray Q (l.length - (i + 1)) (listed.setIfInBounds i true) a' W' := by
      intro a' W' hw'
      refine ih (i + 1) _ a' W' hrest (by omega) hkl (by simpa using hs) (fun j hj => ?_) (fun j hj => ?_) hw'
      · by_cases e : j = i
        · subst e; simp [Array.getD_eq_getD_getElem?, hs, hkl]
        · rw [getD_set_ne false (Ne.symm e)]; exact h1 j (by omega)
      · rw [getD_set_ne false (by omega)]; exact h2 j (by omega)
    unfold wpOp
    rw [show l.toArray[i]? = some o by simpa using hlk]
    unfold wpList at hw
    dsimp only
    split
    · rename_i hwant
      rw [if_pos hwant] at hw
      exact hw.imp (Oper.wp_mono hK) id
    · rename_i hwant
      rw [if_neg hwant] at hw
      exact hK _ _ hw

theorem wp_region_tail {P : Program} {id : Nat} {Q : Exit → Act → World → Prop} {a : Act} {w : World} {l1 l2 : List Oper} (hm : P.follows .mixedOrders = true)
    (R : World → World → Prop) (hRr : ∀ W, R W W) (hR0 : ∀ W : World, R W { W with drawn := W.drawn + 1 }) (hRt : ∀ {A B C}, R A B → R B C → R A C)
    (Φ : Nat → (Nat → Value) → World → Prop) (D : Nat → List Nat) (hst : ∀ j s s' W W', Φ j s W → (∀ k ∈ D j, s' k = s k) → R W W' → Φ j s' W')
    (hback : backB (l1 ++ l2) = true) (hun : uniqB (l1 ++ l2) = true) (hreads : readsB (l1 ++ l2) D = true) (N : Nat) (hN : a.tmps.size = N) (hinB : (((l1 ++ l2).filterMap (·.dst)).all fun d => decide (d < N)) = true)
    (htail : tailB (l1 ++ l2) l1.length = true)
    (hstep : ∀ (i : Nat) o, l1[i]? = some o → ∀ a' W, AtG (l1 ++ l2) R Φ a w i o a' W → GoesG P (l1 ++ l2) R Φ i o a' W Q)
    (hend : ∀ (vs : List Value) W, vs.length = l1.length → R w W → (∀ j, j < l1.length → Φ j (fun k => vs.getD k undef) W) → wpList P (l1 ++ l2).toArray Q l2 (putAll l1 vs a) W) :
    (Code.region id (l1 ++ l2).toArray true).wp P Q a w := by
  have hin : ∀ d ∈ (l1 ++ l2).filterMap (·.dst), d < a.tmps.size := fun d hd => by rw [hN]; exact of_decide_eq_true (List.all_eq_true.1 hinB d hd)
  generalize hl : l1 ++ l2 = l at *
  have hl1 : ∀ j, j < l1.length → l1[j]? = l[j]? := fun j hj => by rw [← hl, List.getElem?_append_left hj]
  have hlen : l1.length ≤ l.length := by rw [← hl]; simp
  have hdrop : l2 = l.drop l1.length := by rw [← hl]; simp
  refine wp_region_any hm ?_
  have fin : ∀ (listed : Array Bool) (a' : Act) (W : World), listed.toList.count false = l.length - l1.length → (∀ j, l1.length ≤ j → listed.getD j false = false) → (∀ j, j < l1.length → listed.getD j false = true) → InvG l R Φ a w listed a' W →
      wpAny P .any l.toArray Q (l.length - l1.length) listed a' W := by
    intro listed a' W hc hlo hall hI
    refine tail_any hback htail l2 l1.length listed a' W hdrop (Nat.le_refl _) hlen hI.lsize hall hlo ?_
    have e : a' = putAll l1 (l1.map fun o => match o.dst with | none => undef | some d => a'.tmps.getD d undef) a := by
      refine act_eq (by rw [putAll_size]; exact hI.size) (by rw [putAll_defers]; exact hI.defers) ?_
      intro d hlt
      by_cases hm : d ∈ l1.filterMap (·.dst)
      · obtain ⟨o, ho, hod⟩ := List.mem_filterMap.1 hm
        obtain ⟨j, hj⟩ := List.getElem?_of_mem ho
        have hjl : j < l1.length := (List.getElem?_eq_some_iff.1 hj).1
        rw [putAll_self l1 _ a j o d (by simp) hj hod (fun i p hp e => uniqB_spec hun (by rw [← hl1 i (List.getElem?_eq_some_iff.1 hp).1]; exact hp) (by rw [← hl1 j hjl]; exact hj) e hod) (by rw [← hI.size]; exact hlt)]
        rw [List.getD_eq_getElem?_getD, List.getElem?_map, hj]
        simp [hod]
      · rw [putAll_other l1 _ a d (fun o ho e => hm (List.mem_filterMap.2 ⟨o, ho, e⟩))]
        refine hI.old d (fun j oj hj hd => ?_)
        rcases Nat.lt_or_ge j l1.length with h | h
        · exact absurd (List.mem_filterMap.2 ⟨oj, List.mem_of_getElem? (by rw [hl1 j h]; exact hj), hd⟩) hm
        · exact hlo j h
    rw [e]
    refine hend _ W (by simp) hI.rel (fun j hj => ?_)
    refine hst j _ _ W W (hI.new j (by omega) (hall j hj)) (fun k hk => ?_) (hRr W)
    have hkj : k ≤ j := by
      have h1 := List.all_eq_true.1 (List.all_eq_true.1 hreads j (List.mem_range.2 (by omega))) k hk
      simp only [Bool.or_eq_true, decide_eq_true_eq] at h1
      rcases h1 with h1 | h1
      · omega
      · exact Nat.le_of_lt (anc_back hback _ _ _ h1)
    have hkl : k < l1.length := by omega
    unfold sv
    rw [List.getD_eq_getElem?_getD, List.getElem?_map, hl1 k hkl]
    cases hk : l[k]? with
    | none => rfl
    | some o => cases hod : o.dst <;> simp [hod]
  have main : ∀ (fuel : Nat) (listed : Array Bool) (a' : Act) (W : World), listed.toList.count false = fuel → (∀ j, l1.length ≤ j → listed.getD j false = false) → InvG l R Φ a w listed a' W → wpAny P .any l.toArray Q fuel listed a' W := by
    intro fuel
    have cnt : ∀ (listed : Array Bool), listed.size = l.length → (∀ j, l1.length ≤ j → listed.getD j false = false) → (∀ j, j < l1.length → listed.getD j false = true) → listed.toList.count false = l.length - l1.length := by
      intro listed hs hlo hall
      have e : listed.toList = List.replicate l1.length true ++ List.replicate (l.length - l1.length) false := by
        apply List.ext_getElem?
        intro i
        by_cases hi : i < listed.size
        · have hg : ∀ b, listed.getD i false = b → listed.toList[i]? = some b := fun b hb => by
            rw [getD_of_lt hi false true] at hb
            simp only [Array.getD_eq_getD_getElem?, Array.getElem?_eq_getElem hi, Option.getD_some] at hb
            simp [hi, hb]
          by_cases h : i < l1.length
          · rw [hg true (hall i h), List.getElem?_append_left (by simpa using h)]
            simp [h]
          · rw [hg false (hlo i (by omega)), List.getElem?_append_right (by simp; omega), List.getElem?_replicate, if_pos (by rw [List.length_replicate]; omega)]
        · rw [List.getElem?_eq_none (by simpa using hi), List.getElem?_eq_none (by simp; omega)]
      rw [e, List.count_append, List.count_replicate, List.count_replicate]
      simp
    induction fuel with
    | zero =>
      intro listed a' W hc hlo hI
      have hall' : ∀ i, i < l.length → listed.getD i false = true := by
        intro i hi
        have hi' : i < listed.size := by rw [hI.lsize]; exact hi
        cases hb : listed.getD i false with
        | true => rfl
        | false =>
          exfalso
          have : false ∈ listed.toList := by
            simp only [Array.getD_eq_getD_getElem?, Array.getElem?_eq_getElem hi', Option.getD_some] at hb
            rw [← hb]; simp
          have := List.count_pos_iff.2 this
          omega
      have hall : ∀ i, i < l1.length → listed.getD i false = true := fun i hi => hall' i (by omega)
      have hc2 := cnt listed hI.lsize hlo hall
      have := fin listed a' W hc2 hlo hall hI
      rw [show l.length - l1.length = 0 by omega] at this
      exact this
    | succ fuel ih =>
      intro listed a' W hc hlo hI
      by_cases hall : ∀ j, j < l1.length → listed.getD j false = true
      · have hc2 := cnt listed hI.lsize hlo hall
        have := fin listed a' W hc2 hlo hall hI
        rw [show l.length - l1.length = fuel + 1 by omega] at this
        exact this
      · obtain ⟨j0, hj0⟩ := Classical.not_forall.1 hall
        obtain ⟨hj0l, hj0f⟩ := Classical.not_imp.1 hj0
        refine ⟨fun h0 => ?_, fun i hi => ?_⟩
        · exact absurd (all_listed hback hI.lsize h0 j0 (by omega)) hj0f
        · obtain ⟨hl0, o, ho, hwait⟩ := mem_ready.1 hi
          have ho' : l[i]? = some o := by simpa using ho
          have hil : i < l.length := (List.getElem?_eq_some_iff.1 ho').1
          have hil' : i < listed.size := by rw [hI.lsize]; exact hil
          have hlf : listed.getD i false = false := by
            rw [getD_of_lt hil' false true]; exact hl0
          have hanc : ∀ n k, ancB l n i k = true → listed.getD k false = true := by
            intro n k hk
            cases n with
            | zero => simp [ancB] at hk
            | succ n =>
              unfold ancB at hk
              rw [ho'] at hk
              obtain ⟨e, he, hh⟩ := List.any_eq_true.1 hk
              simp only [Bool.and_eq_true, Bool.or_eq_true, decide_eq_true_eq] at hh
              have h1 := hwait e (by simpa using he) hh.1
              rcases hh.2 with h2 | h2
              · rw [← h2]; exact h1
              · exact hI.down.anc n e.on k h1 h2
          have hi1 : i < l1.length := by
            rcases Nat.lt_or_ge i l1.length with h | h
            · exact h
            · exact absurd (hanc _ _ (tailB_spec htail hil h (by omega : j0 < i))) hj0f
          have hAt : AtG l R Φ a w i o a' W := ⟨hI.rel, hI.size, hI.defers,
            fun d hd => hI.old d (fun j oj hj hdj => by
              have hji := hd j oj hj hdj
              cases hlj : listed.getD j false with
              | false => rfl
              | true =>
                have := hI.down.anc _ j i hlj hji
                rw [hlf] at this; cases this),
            fun j hj ha => hI.new j hj (hanc _ j ha)⟩
          have hG := hstep i o (by rw [hl1 i hi1]; exact ho') a' W hAt
          have hnext : ∀ v W2, R W W2 → (∀ s : Nat → Value, (o.dst.isSome = true → s i = v) → (∀ k, k ≠ i → ancB l l.length i k = true → s k = sv l a' k) → Φ i s W2) → wpAny P .any l.toArray Q fuel (listed.setIfInBounds i true) (a'.put o.dst v) W2 := by
            intro v W2 hR hv
            have hin' : ∀ d ∈ l.filterMap (·.dst), d < a'.tmps.size := fun d hd => by rw [hI.size]; exact hin d hd
            have hset : ∀ j, j ≠ i → (listed.setIfInBounds i true).getD j false = listed.getD j false := fun j hj => getD_set_ne false (Ne.symm hj)
            refine ih _ _ _ ?_ (fun j hj => by rw [hset j (by omega)]; exact hlo j hj) ?_
            · have := count_set listed.toList i (by simp [hil']; simpa [Array.getD_eq_getD_getElem?, hil'] using hlf)
              rw [Array.toList_setIfInBounds]; omega
            · refine ⟨hRt hI.rel hR, by simpa using hI.lsize, by rw [put_size]; exact hI.size, by rw [put_defers]; exact hI.defers, ?_, ?_, ?_⟩
              · intro d hd
                have hne : o.dst ≠ some d := fun e => by
                  have := hd i o ho' e
                  simp [Array.getD_eq_getD_getElem?, hil'] at this
                rw [put_other hne]
                refine hI.old d (fun j oj hj hdj => ?_)
                by_cases hji : j = i
                · subst hji; exact hlf
                · have := hd j oj hj hdj
                  rwa [hset j hji] at this
              · intro j hj hlj
                by_cases hji : j = i
                · subst hji
                  exact hv _ (fun hd => sv_put_self ho' hin' hd) (fun k hk _ => sv_put_other hun ho' hk)
                · rw [hset j hji] at hlj
                  refine hst j _ _ _ _ (hI.new j hj hlj) (fun k hk => sv_put_other hun ho' ?_) hR
                  rintro rfl
                  have h1 := List.all_eq_true.1 (List.all_eq_true.1 hreads j (List.mem_range.2 hj)) k hk
                  simp only [Bool.or_eq_true, decide_eq_true_eq] at h1
                  rcases h1 with h1 | h1
                  · exact hji h1.symm
                  · have := hI.down.anc _ j k hlj h1
                    rw [hlf] at this; cases this
              · intro j oj hj hlj e he hb
                by_cases hji : j = i
                · subst hji
                  rw [ho'] at hj; cases hj
                  exact getD_set_true (hwait e he hb)
                · rw [hset j hji] at hlj
                  exact getD_set_true (hI.down j oj hj hlj e he hb)
          unfold wpOp
          rw [show l.toArray[i]? = some o by simpa using ho']
          unfold GoesG at hG
          by_cases hwant : Region.wanted o (yielded l.toArray a'.tmps) = true
          · rw [if_pos hwant] at hG
            simp only [hwant, if_true]
            exact .inl (Oper.wp_mono (fun a2 W2 ⟨v, e, hR, hv⟩ => by rw [e]; exact hnext v W2 hR hv) hG)
          · rw [if_neg hwant] at hG
            simp only [hwant]
            exact hnext undef W hG.1 hG.2
  have h0 := main l.length (Array.replicate l.length false) a { w with drawn := w.drawn + 1 } (by simp) (fun j _ => getD_false _ _)
    ⟨hR0 w, by simp, rfl, rfl, fun _ _ => rfl, (fun j _ h => by rw [getD_false] at h; cases h), (fun j oj _ h => by rw [getD_false] at h; cases h)⟩
  simpa using h0

end Go.Proofs.YtmokejjndkibhaaGreatDoor

namespace Go.Proofs.YtmokejjndkibhaaGreatDoor
open Go.RowKit
set_option linter.unusedVariables false
set_option linter.unusedSimpArgs false
open Ex

variable {ops : Array Oper} {rest : List Oper} {o : Oper} {a : Act} {Q : Exit → Act → World → Prop}
end Go.Proofs.YtmokejjndkibhaaGreatDoor

namespace Go.Proofs.YtmokejjndkibhaaGreatDoor
open Go.RowKit
set_option linter.unusedVariables false
set_option linter.unusedSimpArgs false
open Ex

/-- the class of blocks of what a row's elements became -/
def OffV (w₀ w : World) (v : Value) (b : Nat) : Prop := (b < w₀.heap.size ∨ w.heap.size ≤ b) ∧ v.ownBlock ≠ some b
/-- a row of the first elements' images -/
def AppInv (f : Ex → Ex) (w₀ w : World) (ts : List Ex) (v : Value) (rj : List XE) (wr : World) : Prop :=
  ∀ i (h : i < rj.length) (h2 : i < ts.length), rj[i].1 = f ts[i] ∧ AtB (OffV w₀ w v) wr rj[i].2.1 (f ts[i])
theorem AppInv.ext {f : Ex → Ex} {w₀ w : World} {ts : List Ex} {v : Value} {rj : List XE} {wr W : World} (h : AppInv f w₀ w ts v rj wr) (hE : Ext wr W) : AppInv f w₀ w ts v rj W :=
  fun i h1 h2 => ⟨(h i h1 h2).1, (h i h1 h2).2.ext hE⟩
theorem AppInv.step {f : Ex → Ex} {w₀ w : World} {ts : List Ex} {v v' : Value} {rj : List XE} {wr W : World} (h : AppInv f w₀ w ts v rj wr) (hj : rj.length < ts.length) (q : Option Addr) (d : Nat)
    (hk : ∀ b, b < wr.heap.size → v.ownBlock ≠ some b → W.heap[b]? = wr.heap[b]? ∧ v'.ownBlock ≠ some b) (hA : AtB (OffV w₀ w v) wr q (f ts[rj.length])) : AppInv f w₀ w ts v' (rj ++ [(f ts[rj.length], q, d)]) W := by
  have hK : ∀ {p : Option Addr} {e : Ex}, AtB (OffV w₀ w v) wr p e → AtB (OffV w₀ w v') W p e := fun h => h.keep (fun b hb hl => ⟨⟨hb.1, (hk b hl hb.2).2⟩, (hk b hl hb.2).1⟩)
  intro i h1 h2
  by_cases hi : i < rj.length
  · rw [List.getElem_append_left hi]
    exact ⟨(h i hi h2).1, hK (h i hi h2).2⟩
  · have hie : i = rj.length := by simp at h1; omega
    subst hie
    rw [List.getElem_append_right (Nat.le_refl _)]
    simp only [Nat.sub_self, List.getElem_cons_zero]
    exact ⟨trivial, hK hA⟩
/-- the row is an expression's -/
theorem AppInv.done {f : Ex → Ex} {w₀ w : World} {ts : List Ex} {base : Nat} {v : Value} {rj : List XE} {wr : World} {S : Nat → Prop} (h : AppInv f w₀ w ts v rj wr) (hl : rj.length = ts.length)
    (hrow : RowE base v rj wr) {k o x : Int} {n : List UInt8} (hf : fits (.mk k o n x ts)) (hS : ∀ b, base ≤ b → S b) (hSS : ∀ b, b < w₀.heap.size ∨ w.heap.size ≤ b → S b) :
    ∃ p cap, v = .slice p ts.length cap ∧ ∀ W, (∀ b, base ≤ b ∨ b < w₀.heap.size ∨ w.heap.size ≤ b → b < wr.heap.size → W.heap[b]? = wr.heap[b]?) → AtB S W p (.mk k o n x (ts.map f)) := by
  have hfit : fits (.mk k o n x (ts.map f)) := by
    obtain ⟨f1, f2, f3, f4, f5⟩ := hf
    refine ⟨f1, f2, f3, f4, ?_⟩
    show (ts.map f).length ≤ _
    rw [List.length_map]; exact f5
  rcases hrow.forms with ⟨rfl, hr0⟩ | ⟨g, cap, rfl, hgb, hgl⟩
  · have h0 : ts.length = 0 := by rw [← hl, hr0]; rfl
    have h1 := List.eq_nil_of_length_eq_zero h0
    subst h1
    exact ⟨none, 0, rfl, fun W _ => ⟨hfit, trivial⟩⟩
  · refine ⟨some ⟨g, 0, none⟩, cap, by rw [hl], fun W hk => ⟨hfit, AtBL.of_get (fun _ => hS g hgb) (fun i hi => ?_)⟩⟩
    rw [List.length_map] at hi
    have hi2 : i < rj.length := by rw [hl]; exact hi
    obtain ⟨e1, e2⟩ := h i hi2 hi
    refine ⟨rj[i].2.1, rj[i].2.2, ?_, ?_⟩
    · rw [List.getElem_map, ← e1, Nat.zero_add, Nat.zero_add]
      exact (RowE.cells hrow i hi2).block (hk g (.inl hgb) hgl)
    · rw [List.getElem_map]
      exact e2.keep (fun b hb hb2 => ⟨hSS b hb.1, hk b (.inr hb.1) hb2⟩)
theorem RowE.empty (w : World) (base : Nat) (hb : base ≤ w.heap.size) : RowE base (.slice (some ⟨w.heap.size, 0, none⟩) 0 0) [] (w.alloc (.cells #[] tEx)) :=
  World.ownsRow_lit w #[] 0 hb (by unfold maxLen; omega) (by simp)

end Go.Proofs.YtmokejjndkibhaaGreatDoor

namespace Go.Proofs.YtmokejjndkibhaaGreatDoor
open Go.RowKit
set_option linter.unusedVariables false
set_option linter.unusedSimpArgs false
open Ex

/-- the empty expression -/
def exZ : Ex := .mk 0 0 [] 0 []
theorem exZ_fits : fits exZ := by
  refine ⟨⟨by show _ ≤ (0 : Int); omega, by show (0 : Int) ≤ _; omega⟩, ⟨by show _ ≤ (0 : Int); omega, by show (0 : Int) ≤ _; omega⟩, by show ([] : List UInt8).length ≤ _; simp, ⟨by show _ ≤ (0 : Int); omega, by show (0 : Int) ≤ _; omega⟩, by show ([] : List Ex).length ≤ _; simp⟩
theorem exZ_at (w : World) (p : Option Addr) : Ex.At w p exZ := ⟨exZ_fits, trivial⟩
theorem AtB.size {S : Nat → Prop} {w : World} {p : Option Addr} {e : Ex} (h : AtB S w p e) : Ex.At w p e := h.at

end Go.Proofs.YtmokejjndkibhaaGreatDoor

namespace Go.Proofs.YtmokejjndkibhaaGreatDoor
open Go.RowKit
set_option linter.unusedVariables false
set_option linter.unusedSimpArgs false
open Ex

section
variable {ops : Array Oper} {rest : List Oper} {o : Oper} {a : Act} {Q : Exit → Act → World → Prop}
end

end Go.Proofs.YtmokejjndkibhaaGreatDoor

namespace Go.Proofs.YtmokejjndkibhaaGreatDoor
open Go.RowKit
set_option linter.unusedVariables false
set_option linter.unusedSimpArgs false
open Ex

theorem wanted_of {l : List Oper} {a' : Act} {o : Oper} {j : Nat} {g v : Bool} (hg : o.guard = some (j, g)) (hv : sv l a' j = .bool v) : Region.wanted o (yielded l.toArray a'.tmps) = (v == g) := by
  unfold sv at hv
  have hy : yielded l.toArray a'.tmps j = some v := by
    unfold yielded
    cases hd : (l[j]?).bind (·.dst) with
    | none => rw [hd] at hv; cases hv
    | some d =>
      rw [hd] at hv
      dsimp only at hv
      have h1 : a'.tmps[d]? = some (.bool v) := by
        cases ht : a'.tmps[d]? with
        | none => simp [Array.getD_eq_getD_getElem?, ht] at hv; cases hv
        | some x => simp [Array.getD_eq_getD_getElem?, ht] at hv; rw [hv]
      have h2 : (l.toArray[j]?).bind (·.dst) = some d := by simpa using hd
      rw [h2]
      simp [h1]
  simp [Region.wanted, hg, hy]
theorem GoesG.valueW {P : Program} {l : List Oper} {R : World → World → Prop} {Φ : Nat → (Nat → Value) → World → Prop} {i : Nat} {o : Oper} {a' : Act} {W W' : World} {Q : Exit → Act → World → Prop} (v : Value) (j : Nat) (g b : Bool) (hg : o.guard = some (j, g)) (hv : sv l a' j = .bool b) (hbg : (b == g) = true) (hrun : (execOp a'.eval o).run P W = .ok (.value v) W') (hR : R W W')
    (hΦ : ∀ s : Nat → Value, (o.dst.isSome = true → s i = v) → (∀ k, k ≠ i → ancB l l.length i k = true → s k = sv l a' k) → Φ i s W') : GoesG P l R Φ i o a' W Q := by
  unfold GoesG
  rw [if_pos (by rw [wanted_of hg hv, hbg])]
  unfold Oper.wp
  rw [hrun]
  exact ⟨v, rfl, hR, hΦ⟩
end Go.Proofs.YtmokejjndkibhaaGreatDoor

namespace Go.Proofs.YtmokejjndkibhaaGreatDoor
open Go.RowKit
set_option linter.unusedVariables false
set_option linter.unusedSimpArgs false
open Ex

end Go.Proofs.YtmokejjndkibhaaGreatDoor

namespace Go.Proofs.YtmokejjndkibhaaGreatDoor
open Go.RowKit
set_option linter.unusedVariables false
set_option linter.unusedSimpArgs false
open Ex

end Go.Proofs.YtmokejjndkibhaaGreatDoor

namespace Go.Proofs.YtmokejjndkibhaaGreatDoor
open Go.RowKit
set_option linter.unusedVariables false
set_option linter.unusedSimpArgs false
open Ex

mutual
/-- two expressions are equal -/
def eqE : Ex → Ex → Bool
  | .mk k o n v ts, .mk k' o' n' v' ts' => k == k' && (o == o' && (n == n' && (v == v' && eqL ts ts')))
def eqL : List Ex → List Ex → Bool
  | [], [] => true
  | t :: ts, t' :: ts' => eqE t t' && eqL ts ts'
  | _, _ => false
end
theorem eqL_len : ∀ (ts ts' : List Ex), ts.length ≠ ts'.length → eqL ts ts' = false
  | [], [], h => absurd rfl h
  | [], _ :: _, _ => by simp [eqL]
  | _ :: _, [], _ => by simp [eqL]
  | t :: ts, t' :: ts', h => by simp only [eqL]; rw [eqL_len ts ts' (by simpa using h)]; simp
theorem eqL_drop (ts ts' : List Ex) (j : Nat) (h : j < ts.length) (h' : j < ts'.length) : eqL (ts.drop j) (ts'.drop j) = (eqE ts[j] ts'[j] && eqL (ts.drop (j + 1)) (ts'.drop (j + 1))) := by
  rw [List.drop_eq_getElem_cons h, List.drop_eq_getElem_cons h']; simp only [eqL]
theorem eqL_end (ts ts' : List Ex) (j : Nat) (h : ¬ j < ts.length) (h' : ts.length = ts'.length) : eqL (ts.drop j) (ts'.drop j) = true := by
  rw [List.drop_eq_nil_of_le (by omega), List.drop_eq_nil_of_le (by omega)]; simp [eqL]

theorem eqE_def (a b : Ex) : eqE a b = (a.kind == b.kind && (a.op == b.op && (a.name == b.name && (a.value == b.value && eqL a.args b.args)))) := by
  cases a; cases b; simp [eqE, Ex.kind, Ex.op, Ex.name, Ex.value, Ex.args]

end Go.Proofs.YtmokejjndkibhaaGreatDoor

namespace Go.Proofs.YtmokejjndkibhaaGreatDoor
open Go.RowKit
set_option linter.unusedVariables false
set_option linter.unusedSimpArgs false
open Ex

end Go.Proofs.YtmokejjndkibhaaGreatDoor

namespace Go.Proofs.YtmokejjndkibhaaGreatDoor

/-- the digits of n in base 256, the most significant first; at most k of them -/
def magF : Nat → Nat → List UInt8
  | 0, _ => []
  | k + 1, n => if n = 0 then [] else magF k (n / 256) ++ [UInt8.ofNat (n % 256)]
def mag (n : Nat) : List UInt8 := magF 9 n

def headP (k : Nat) : UInt8 := UInt8.ofNat (128 + k)
def headN (k : Nat) : UInt8 := UInt8.ofNat (127 - k)
/-- the encoding of an integer -/
def enc (n : Int) : List UInt8 :=
  if 0 ≤ n then headP (mag n.toNat).length :: mag n.toNat
  else headN (mag (-n - 1).toNat).length :: (mag (-n - 1).toNat).map (fun b => 255 - b)

end Go.Proofs.YtmokejjndkibhaaGreatDoor

namespace Go.Proofs.YtmokejjndkibhaaGreatDoor
open Go.RowKit Go.Shelf
set_option linter.unusedVariables false
attribute [local go_sem] Oper.semAt_some

end Go.Proofs.YtmokejjndkibhaaGreatDoor

namespace Go.Proofs.YtmokejjndkibhaaGreatDoor
open Go.RowKit Go.Shelf
set_option linter.unusedVariables false
attribute [local go_sem] Oper.semAt_some

def bV (b : UInt8) : Value := .int .u8 (b.toNat : Int)
def bsV (l : List UInt8) : List Value := l.map bV

theorem bsV_app (l : List UInt8) (b : UInt8) : bsV l ++ [.int .u8 (b.toNat : Int)] = bsV (l ++ [b]) := by simp [bsV, bV]
end Go.Proofs.YtmokejjndkibhaaGreatDoor

namespace Go.Proofs.YtmokejjndkibhaaGreatDoor
open Go.RowKit Go.Shelf
set_option linter.unusedVariables false

def bren : Ren := ⟨fun | 166 => 83 | 167 => 103 | 169 => 54 | 240 => 100 | 276 => 139 | n => n, fun | 0 => 0 | 3 => 3 | 4 => 4 | 5 => 5 | 9 => 9 | 20 => 20 | 37 => 68 | 70 => 67 | 72 => 70 | 75 => 94 | 80 => 72 | 127 => 104 | 164 => 136 | n => n, fun | n => n⟩
theorem bl166 : Go.Proofs.Lays.n166 Tryz.prog bren := {
  mixed := by kernel_rfl
  f166 := Tryz.func83.trans (congrArg some (by kernel_rfl))
  f240 := Tryz.func100.trans (congrArg some (by kernel_rfl))
  f276 := Tryz.func139.trans (congrArg some (by kernel_rfl))
  t0 := Tryz.underlying0
  a0 := Tryz.isAgg0
  z0 := Tryz.sizeOf0
  v0 := Tryz.zeroValue0
  t3 := Tryz.underlying3
  a3 := Tryz.isAgg3
  z3 := Tryz.sizeOf3
  v3 := Tryz.zeroValue3
  t4 := Tryz.underlying4
  a4 := Tryz.isAgg4
  z4 := Tryz.sizeOf4
  v4 := Tryz.zeroValue4
  t9 := Tryz.underlying9
  a9 := Tryz.isAgg9
  z9 := Tryz.sizeOf9
  v9 := Tryz.zeroValue9
  t20 := Tryz.underlying20
  a20 := Tryz.isAgg20
  z20 := Tryz.sizeOf20
  v20 := Tryz.zeroValue20
  t37 := Tryz.underlying68
  a37 := Tryz.isAgg68
  z37 := Tryz.sizeOf68
  v37 := Tryz.zeroValue68
  t70 := Tryz.underlying67
  a70 := Tryz.isAgg67
  z70 := Tryz.sizeOf67
  v70 := Tryz.zeroValue67
  t72 := Tryz.underlying70
  a72 := Tryz.isAgg70
  z72 := Tryz.sizeOf70
  v72 := Tryz.zeroValue70
  t75 := Tryz.underlying94
  a75 := Tryz.isAgg94
  z75 := Tryz.sizeOf94
  v75 := Tryz.zeroValue94
  t164 := Tryz.underlying136
  a164 := Tryz.isAgg136
  z164 := Tryz.sizeOf136
  v164 := Tryz.zeroValue136
}
theorem bl167 : Go.Proofs.Lays.n167 Tryz.prog bren := {
  mixed := by kernel_rfl
  f167 := Tryz.func103.trans (congrArg some (by kernel_rfl))
  f240 := Tryz.func100.trans (congrArg some (by kernel_rfl))
  f276 := Tryz.func139.trans (congrArg some (by kernel_rfl))
  t0 := Tryz.underlying0
  a0 := Tryz.isAgg0
  z0 := Tryz.sizeOf0
  v0 := Tryz.zeroValue0
  t4 := Tryz.underlying4
  a4 := Tryz.isAgg4
  z4 := Tryz.sizeOf4
  v4 := Tryz.zeroValue4
  t5 := Tryz.underlying5
  a5 := Tryz.isAgg5
  z5 := Tryz.sizeOf5
  v5 := Tryz.zeroValue5
  t9 := Tryz.underlying9
  a9 := Tryz.isAgg9
  z9 := Tryz.sizeOf9
  v9 := Tryz.zeroValue9
  t20 := Tryz.underlying20
  a20 := Tryz.isAgg20
  z20 := Tryz.sizeOf20
  v20 := Tryz.zeroValue20
  t37 := Tryz.underlying68
  a37 := Tryz.isAgg68
  z37 := Tryz.sizeOf68
  v37 := Tryz.zeroValue68
  t70 := Tryz.underlying67
  a70 := Tryz.isAgg67
  z70 := Tryz.sizeOf67
  v70 := Tryz.zeroValue67
  t72 := Tryz.underlying70
  a72 := Tryz.isAgg70
  z72 := Tryz.sizeOf70
  v72 := Tryz.zeroValue70
  t75 := Tryz.underlying94
  a75 := Tryz.isAgg94
  z75 := Tryz.sizeOf94
  v75 := Tryz.zeroValue94
  t164 := Tryz.underlying136
  a164 := Tryz.isAgg136
  z164 := Tryz.sizeOf136
  v164 := Tryz.zeroValue136
}
theorem bl169 : Go.Proofs.Lays.n169 Tryz.prog bren := {
  mixed := by kernel_rfl
  f169 := Tryz.func54.trans (congrArg some (by kernel_rfl))
  t0 := Tryz.underlying0
  a0 := Tryz.isAgg0
  z0 := Tryz.sizeOf0
  v0 := Tryz.zeroValue0
  t3 := Tryz.underlying3
  a3 := Tryz.isAgg3
  z3 := Tryz.sizeOf3
  v3 := Tryz.zeroValue3
  t9 := Tryz.underlying9
  a9 := Tryz.isAgg9
  z9 := Tryz.sizeOf9
  v9 := Tryz.zeroValue9
  t37 := Tryz.underlying68
  a37 := Tryz.isAgg68
  z37 := Tryz.sizeOf68
  v37 := Tryz.zeroValue68
  t70 := Tryz.underlying67
  a70 := Tryz.isAgg67
  z70 := Tryz.sizeOf67
  v70 := Tryz.zeroValue67
  t72 := Tryz.underlying70
  a72 := Tryz.isAgg70
  z72 := Tryz.sizeOf70
  v72 := Tryz.zeroValue70
  t127 := Tryz.underlying104
  a127 := Tryz.isAgg104
  z127 := Tryz.sizeOf104
  v127 := Tryz.zeroValue104
}
theorem bextra : Builder.Extra Tryz.prog bren := {
  sizeBuilder := by kernel_rfl
  liesBuilder := by kernel_rfl
  t5 := Tryz.underlying5
  a5 := Tryz.isAgg5
  z5 := Tryz.sizeOf5
  v5 := Tryz.zeroValue5
  infoByte := by kernel_rfl
  cellsByte := by kernel_rfl
  sizeByte := by kernel_rfl
  neB5 := by decide }

/-- a builder of the call's own (its blocks from B on), in block b, holding the bytes l -/
def Bld (B b : Nat) (l : List UInt8) (w : World) : Prop := Lib.IsBuilder 70 5 B b (bsV l) w
theorem strCells_sB (l : List UInt8) : Lib.strCells (sB l) = bsV l := by simp [Lib.strCells, bsV, sB, bV]
theorem bsV_add (a b : List UInt8) : bsV a ++ bsV b = bsV (a ++ b) := by simp [bsV]

theorem ownsRow_extB {base : Nat} {e : TypeId} {k : Nat} {v : Value} {n : Nat} {xs : List Value} {w w' : World} (h : w.ownsRow base e k v n xs) (hb : Below w.heap.size w w') : w'.ownsRow base e k v n xs :=
  h.kept (row := none) ⟨hb.os, hb.tape, hb.output, hb.size, fun i hi _ => hb.block i hi⟩ (by cases v.ownBlock with | none => exact .inl rfl | some j => exact .inr (by simp))
theorem builderAt_ext {T e : TypeId} {B b : Nat} {p : Value} {bs : List Value} {w w' : World} (h : Lib.BuilderAt T e B b p bs w) (hb : Below w.heap.size w w') : Lib.BuilderAt T e B b p bs w' := by
  have hlt := Lib.BuilderAt.lt h
  obtain ⟨h1, v, h2, h3, h4⟩ := h
  exact ⟨h1, v, by rw [hb.block b hlt]; exact h2, ownsRow_extB h3 hb, h4⟩
theorem Bld.ext {B b : Nat} {l : List UInt8} {w w' : World} (h : Bld B b l w) (hb : Below w.heap.size w w') : Bld B b l w' := by
  rcases h with h | h
  · exact .inl (builderAt_ext h hb)
  · exact .inr (builderAt_ext h hb)

end Go.Proofs.YtmokejjndkibhaaGreatDoor

namespace Go.Proofs.YtmokejjndkibhaaGreatDoor
open Go.RowKit
set_option linter.unusedVariables false
set_option linter.unusedSimpArgs false
open Ex

/-- how tightly e binds -/
def prec (e : Ex) : Int := if e.kind = 3 then 6 else if e.kind = 4 then (opOf e.op).prec else 7
/-- the values of the region that looks a precedence up -/
def pcR (B : Nat) (o : Int) : Nat → (Nat → Value) → World → Prop
  | 0, s, W => ∃ b, s 0 = .map (some b) ∧ OpsAt W b opL
  | 1, s, _ => s 1 = .pointer (some ⟨B, 1, none⟩)
  | 2, s, _ => s 2 = .int .i64 o
  | 3, s, _ => ∃ fv, s 3 = (opOf o).val fv
  | 4, s, _ => s 4 = .int .i64 (opOf o).prec
  | 5, s, _ => s 5 = .int .i64 (opOf o).prec
  | _, _, _ => True
theorem pcR_st (B : Nat) (o : Int) : ∀ j s s' W W', pcR B o j s W → (∀ i ∈ [j], s' i = s i) → Ext W W' → pcR B o j s' W' := by
  intro j s s' W W' h hs hG
  have hs := hs j (by simp)
  match j, h, hs with
  | 0, ⟨b, h1, h2⟩, hs => exact ⟨b, hs.trans h1, h2.grow (Grow.of_ext (B := 0) (T := tOp) (F := fun _ => True) hG) (by decide) (by decide)⟩
  | 1, h, hs => exact hs.trans h
  | 2, h, hs => exact hs.trans h
  | 3, ⟨fv, h1⟩, hs => exact ⟨fv, hs.trans h1⟩
  | 4, h, hs => exact hs.trans h
  | 5, h, hs => exact hs.trans h
  | n + 6, h, hs => exact trivial

theorem op_prec (x0 : Value) (x1 x2 x3 : Int) (fv : Value) (W : World) : (Instr.field 101 (.agg #[x0, .int .i64 x1, .int .i64 x2, .int .i64 x3, fv]) 1).run Tryz.prog W = .ok (.int .i64 x1) W := by kernel_rfl
set_option maxRecDepth 100000 in
set_option maxHeartbeats 4000000 in
theorem precedence_any (e : Ex) (hk : e.kind = 4 → knownB e.op = true) (p : Option Addr) (c : Nat) (w : World) : Gives Tryz.prog 102 #[e.val p c] w (.int .i64 (prec e)) := by
  have hv : e.val p c = .agg #[.int .i64 e.kind, .int .i64 e.op, sV e.name, .int .i64 e.value, .slice p e.args.length c] := rfl
  rw [hv]
  clear hv
  unfold prec
  generalize e.kind = k1 at *
  generalize e.op = o1 at *
  generalize e.name = n1 at *
  generalize e.value = v1 at *
  generalize e.args.length = l1 at *
  have hE0 := (Below.refl w.heap.size w).alloc (Nat.le_refl _) (.cells #[.int .i64 k1, .int .i64 o1, sV n1, .int .i64 v1, .slice p l1 c] tEx)
  have hbx := alloc_here w (.cells #[.int .i64 k1, .int .i64 o1, sV n1, .int .i64 v1, .slice p l1 c] tEx)
  have HE0 := Lib.hid (show Ext w _ from hE0)
  have HBX := Lib.hid hbx
  clear hE0 hbx
  unfold Gives
  by_cases h3 : k1 = 3
  · subst h3
    clear hk
    rw [if_pos rfl]
    go_enter Tryz.func102, Tryz.ntmps102
    go_wp2
    go_ret
    exact ⟨rfl, HE0.out⟩
  · have g3 : (k1 == 3) = false := by simpa using h3
    rw [if_neg h3]
    by_cases h4 : k1 = 4
    · subst h4
      have hkn := hk rfl
      rw [if_pos rfl]
      clear h3 hk
      go_enter Tryz.func102, Tryz.ntmps102
      go_wp2
      have hbx := HBX.out
      have hE0 := HE0.out
      generalize w.alloc (.cells #[.int .i64 4, .int .i64 o1, sV n1, .int .i64 v1, .slice p l1 c] tEx) = w1 at *
      have hltx := lt_of_block hbx
      refine wp_region_g (by kernel_rfl) Ext (fun W => show Below W.heap.size W { W with drawn := W.drawn + 1 } from ⟨rfl, rfl, rfl, Nat.le_refl _, fun _ _ => rfl⟩) Ext.trans (pcR w.heap.size o1) (fun j => [j]) (pcR_st _ _) (by kernel_rfl) (by kernel_rfl) (by kernel_rfl) 14 rfl (by kernel_rfl) ?_ ?_
      · intro i op ho a' W hA
        have hb : W.heap[w.heap.size]? = _ := (hA.rel.below.block _ hltx).trans hbx
        have c1 : W.cell? ⟨w.heap.size, 1, none⟩ = some (.int .i64 o1) := cell_of hb rfl
        match i, ho with
        | 0, ho =>
          obtain rfl := Option.some.inj ho
          refine GoesG.call 86 #[] rfl ?_ ((operators_any W).mono ?_)
          · simp [execOp, resolve, invoke, Deferred.ofValue]
            rfl
          · rintro e W1 ⟨b, rfl, hO, hE⟩
            exact ⟨_, rfl, hE, fun s h1 h2 => ⟨b, h1 rfl, hO⟩⟩
        | 1, ho =>
          obtain rfl := Option.some.inj ho
          have e1 : a'.eval (.tmp 1) = .pointer (some ⟨w.heap.size, 0, none⟩) := hA.keep 1 (by kernel_rfl)
          refine GoesG.value (.pointer (some ⟨w.heap.size, 1, none⟩)) rfl ?_ (Below.refl _ _) (fun s h1 h2 => h1 rfl)
          simp only [execOp, e1]
          simp [go_sem]
        | 2, ho =>
          obtain rfl := Option.some.inj ho
          have e1 : a'.eval (.tmp 10) = .pointer (some ⟨w.heap.size, 1, none⟩) := (sv_dst (l := _) rfl).symm.trans (hA.new 1 (by decide) (by kernel_rfl))
          refine GoesG.value (.int .i64 o1) rfl ?_ (Below.refl _ _) (fun s h1 h2 => h1 rfl)
          simp only [execOp, e1]
          simp [go_sem, c1]
        | 3, ho =>
          obtain rfl := Option.some.inj ho
          obtain ⟨b, e0, hO⟩ := hA.new 0 (by decide) (by kernel_rfl)
          have e1 : a'.eval (.tmp 9) = .map (some b) := (sv_dst (l := _) rfl).symm.trans e0
          have e2 : a'.eval (.tmp 11) = .int .i64 o1 := (sv_dst (l := _) rfl).symm.trans (hA.new 2 (by decide) (by kernel_rfl))
          obtain ⟨fv, hf, hr⟩ := ops_yes hO o1 hkn
          have hrun := hr false
          refine GoesG.value ((opOf o1).val fv) rfl ?_ (Below.refl _ _) (fun s h1 h2 => ⟨fv, h1 rfl⟩)
          simp only [execOp, e1, e2, Sem.run_bind, hrun, Result.andThen_ok, Sem.run_pure]
          rfl
        | 4, ho =>
          obtain rfl := Option.some.inj ho
          obtain ⟨fv, e0⟩ := hA.new 3 (by decide) (by kernel_rfl)
          have e1 : a'.eval (.tmp 12) = .agg #[sV (opOf o1).sign, .int .i64 (opOf o1).prec, .int .i64 (opOf o1).arg, .int .i64 (opOf o1).res, fv] := (sv_dst (l := _) rfl).symm.trans e0
          refine GoesG.value (.int .i64 (opOf o1).prec) rfl ?_ (Below.refl _ _) (fun s h1 h2 => h1 rfl)
          simp only [execOp, e1]
          simp [go_sem, op_prec]
        | 5, ho =>
          obtain rfl := Option.some.inj ho
          exact GoesG.assign (.tmp 13) rfl rfl (Below.refl _ _) (fun s h1 h2 => (h1 rfl).trans ((sv_dst (l := _) rfl).symm.trans (hA.new 4 (by decide) (by kernel_rfl))))
        | i + 6, ho => cases ho
      · intro vs W hvs hG hΦ
        obtain ⟨u0, u1, u2, u3, u4, u5, rfl⟩ := six vs hvs
        have hu : u5 = .int .i64 (opOf o1).prec := hΦ 5 (by decide)
        subst hu
        have HG := Lib.hid (Ext.trans hE0 hG)
        clear hΦ hG hvs hbx hE0 hltx
        simp only [putAll, Act.put, List.setIfInBounds_toArray, List.set_cons_succ, List.set_cons_zero]
        go_wp2
        go_ret
        exact ⟨rfl, HG.out⟩
    · have g4 : (k1 == 4) = false := by simpa using h4
      rw [if_neg h4]
      clear h3 h4 hk
      go_enter Tryz.func102, Tryz.ntmps102
      go_wp2
      go_ret
      exact ⟨rfl, HE0.out⟩

end Go.Proofs.YtmokejjndkibhaaGreatDoor

namespace Go.Proofs.YtmokejjndkibhaaGreatDoor
open Go.RowKit Go.Shelf
set_option linter.unusedVariables false
set_option linter.unusedSimpArgs false
open Ex

def BlF (B b : Nat) (l : List UInt8) (w : World) : Prop := Lib.IsBuilderF 70 5 B b (bsV l) w
/-- what writing to a Builder keeps -/
def WK (B b : Nat) (w w' : World) : Prop := Below B w w' ∧ Lib.OthersKept 5 (some b) w w'
theorem WK.refl (B b : Nat) (w : World) : WK B b w w := ⟨Below.refl _ _, Lib.OthersKept.refl _ _ _⟩
theorem WK.trans {B b : Nat} {u v w : World} (h : WK B b u v) (g : WK B b v w) : WK B b u w := ⟨h.1.trans g.1, h.2.trans g.2⟩
theorem WK.of_ext {B b : Nat} {w w' : World} (h : Ext w w') (hB : B ≤ w.heap.size) : WK B b w w' := ⟨h.below.mono hB, fun k o hk _ _ => (h.below.block k (lt_of_block hk)).trans hk⟩
theorem wk_writeString (B b : Nat) (l s : List UInt8) (w : World) (h : BlF B b l w) (hlen : l.length + s.length ≤ 1000000000000) (hBw : B ≤ w.heap.size) :
    Calls Tryz.prog 83 #[.pointer (some ⟨b, 0, none⟩), sV s] w fun e w' => e = .returned (.tuple #[.int .i64 s.length, .nilIface]) ∧ BlF B b (l ++ s) w' ∧ WK B b w w' := by
  refine (Any.Builder_WriteString_k bl166 bextra B b (bsV l) (sB s) w h (by rw [sB_size]; simp [bsV]; omega) hBw).mono fun e w' h => ?_
  obtain ⟨rfl, h1, h2⟩ := h
  rw [strCells_sB, bsV_add] at h1
  exact ⟨by rw [sB_size], .inr h1, h2⟩
theorem wk_writeByte (B b : Nat) (l : List UInt8) (c : UInt8) (n : Int) (hn : (c.toNat : Int) = n) (w : World) (h : BlF B b l w) (hlen : l.length ≤ 1000000000000) (hBw : B ≤ w.heap.size) :
    Calls Tryz.prog 103 #[.pointer (some ⟨b, 0, none⟩), .int .u8 n] w fun e w' => e = .returned .nilIface ∧ BlF B b (l ++ [c]) w' ∧ WK B b w w' := by
  subst hn
  refine (Any.Builder_WriteByte_k bl167 bextra B b (bsV l) (c.toNat : Int) w h (by simp [bsV]; omega) hBw).mono fun e w' h => ?_
  obtain ⟨rfl, h1, h2⟩ := h
  rw [bsV_app] at h1
  exact ⟨rfl, .inr h1, h2⟩

set_option maxHeartbeats 2000000 in
set_option maxRecDepth 100000 in
theorem writeByte_deferred (B b : Nat) (l : List UInt8) (c : UInt8) (n : Int) (hn : (c.toNat : Int) = n) (u : FrameMode) (w : World) (h : BlF B b l w) (hlen : l.length ≤ 1000000000000) (hBw : B ≤ w.heap.size) :
    CallsD Tryz.prog 103 #[.pointer (some ⟨b, 0, none⟩), .int .u8 n] u w fun e u' w' => u' = u ∧ (e = .returned .nilIface ∧ BlF B b (l ++ [c]) w' ∧ WK B b w w') := by
  subst hn
  obtain ⟨i0, hi, hz0, hz1, hz2⟩ := info_parts bextra.infoByte
  have hCC := Lib.hid (fun (W : World) (hW : BlF B b l W) => Any.Builder_copyCheck_k (P := Tryz.prog) (ρ := bren) { bl167 with } bextra.toX72 B b (bsV l) W hW)
  have hl5 : (bsV l).length = l.length := by simp [bsV]
  go_enter_d Tryz.func103, Tryz.ntmps103
  go_wp2_with fail
  refine (hCC.out _ h).mono ?_
  rintro e w1 ⟨rfl, h1, hb1, hk1⟩
  obtain ⟨hB, v, hbk, hown, hne⟩ := h1
  have c0 : w1.cell? ⟨b, 0, none⟩ = some (.pointer (some ⟨b, 0, none⟩)) := by rw [Lib.cell_of_heap hbk]; rfl
  have c1 : w1.cell? ⟨b, 1, none⟩ = some v := by rw [Lib.cell_of_heap hbk]; rfl
  have hB8 : (Tryz.prog.info? 5) = some i0 := hi
  have hlt := lt_of_block hbk
  have hs1 := hb1.size
  have HK := Lib.hid hbk
  have HK1 := Lib.hid hk1
  have hown1 := hown.alloc (.cells #[.int .u8 (c.toNat : Int)] 5)
  have HO := Lib.hid hown1
  have HW := Lib.hid (fun k hk => (hown.lt k hk).1)
  have HKD := Lib.hid (Lib.ownsRowF_kind hown1)
  have HN := Lib.hid hne
  have HB1 := Lib.hid hb1
  clear h hCC hbk hown hown1 hne hb1 hk1
  go_wp2_with (at_builtin; go_loud (refine wpList_append_ownF _ rfl _ _ 68 rfl B 5 i0 (.int .u8 0) 1 1 Tryz.underlying68 hB8 hz0 hz1 hz2 rfl (by decide) v (bsV l).length (bsV l) rfl HO.out ⟨w1.heap.size, 0, none⟩ 1 1 [.int .u8 (c.toNat : Int)] rfl rfl (cell_one_new _ _ _) (by simp [Value.oneCell']) (by unfold maxLen; omega) (by omega) (by simp; omega) ?_))
  intro v' w2 hown' hgrow _
  have hb2 : w2.heap[b]? = some (.cells #[.pointer (some ⟨b, 0, none⟩), v] 70 (0, 0)) :=
    (hgrow.block b (by simp; omega) (fun e => HN.out e.symm)).trans ((Below.heap_alloc w1 _ b hlt).trans HK.out)
  have d0 : w2.cell? ⟨b, 0, none⟩ = some (.pointer (some ⟨b, 0, none⟩)) := cell_of hb2 rfl
  have d1 : w2.cell? ⟨b, 1, none⟩ = some v := cell_of hb2 rfl
  have f1 : w2.frozen? ⟨b, 1, none⟩ = false := free_of hb2
  obtain ⟨g, cap, rfl⟩ : ∃ g cap, v' = .slice (some ⟨g, 0, none⟩) (l.length + 1) cap := by
    rcases hown'.2 with ⟨_, h0⟩ | ⟨g, cap, cur, m, hv, _⟩
    · omega
    · exact ⟨g, cap, hv⟩
  have HB2 := Lib.hid hb2
  have HO' := Lib.hid hown'
  have HG := Lib.hid hgrow
  clear hb2 hown' hgrow
  go_wp2
  go_ret
  refine ⟨rfl, .inr ?_, ?_, ?_⟩
  · have h5 := Lib.BuilderAtF.put (T := 70) (e := 5) hB HB2.out (bs' := bsV l ++ [.int .u8 (c.toNat : Int)]) (by have h := HO'.out; rw [List.length_append, hl5]; simpa [hl5] using h) (by decide)
    rw [show bsV (l ++ [c]) = bsV l ++ [.int .u8 (c.toNat : Int)] from (bsV_app l c).symm]
    exact h5
  · exact ((HB1.out.alloc (by omega) _).grown HG.out (by simp; omega) (fun k hk => HW.out k hk)).setCell (p := ⟨b, 1, none⟩) hB _
  · exact ((HK1.out.alloc _).grown HG.out HKD.out).setCell ⟨b, 1, none⟩ rfl _

end Go.Proofs.YtmokejjndkibhaaGreatDoor

namespace Go.Proofs.YtmokejjndkibhaaGreatDoor
open Go.RowKit Go.Shelf
set_option linter.unusedVariables false
set_option linter.unusedSimpArgs false
open Ex

/-- brackets where the text binds too loosely -/
def brk (limit p : Int) (t : List UInt8) : List UInt8 := if p < limit then [40] ++ t ++ [41] else t
mutual
/-- the text of an expression; dec: the numeral of a number -/
def txt (dec : Int → List UInt8) : Ex → List UInt8
  | .mk k o n v ts => if k = 1 then dec v else if k = 2 then n else if k = 3 then (if o = 1 then [45] else [33]) ++ brk 6 ((txts dec ts).getD 0 (0, [])).1 ((txts dec ts).getD 0 (0, [])).2 else
      brk (if (opOf o).prec = 3 then 4 else (opOf o).prec) ((txts dec ts).getD 0 (0, [])).1 ((txts dec ts).getD 0 (0, [])).2 ++ [32] ++ (opOf o).sign ++ [32] ++ brk ((opOf o).prec + 1) ((txts dec ts).getD 1 (0, [])).1 ((txts dec ts).getD 1 (0, [])).2
def txts (dec : Int → List UInt8) : List Ex → List (Int × List UInt8)
  | [] => []
  | e :: es => (prec e, txt dec e) :: txts dec es
end

end Go.Proofs.YtmokejjndkibhaaGreatDoor

namespace Go.Proofs.YtmokejjndkibhaaGreatDoor
open Go.RowKit Go.Shelf
set_option linter.unusedVariables false
set_option linter.unusedSimpArgs false
open Ex

theorem WK.box {B b : Nat} {w w' : World} (h : WK B b w w') {k : Nat} {c : Array Value} {f : Nat × Nat} (hk : w.heap[k]? = some (.cells c tEx f)) (hb : k ≠ b) : w'.heap[k]? = some (.cells c tEx f) :=
  h.2 k _ hk (by simpa using hb) (fun c' fz e => by cases e)
theorem BlF.ne {B b : Nat} {l : List UInt8} {w : World} (h : BlF B b l w) {k : Nat} {c : Array Value} {f : Nat × Nat} (hk : w.heap[k]? = some (.cells c tEx f)) : k ≠ b := by
  rintro rfl
  rcases h with ⟨_, v, hb, _⟩ | ⟨_, v, hb, _⟩ <;> (rw [hk] at hb; cases hb)
theorem BlF.ext {B b : Nat} {l : List UInt8} {w W : World} (h : BlF B b l w) (hE : Ext w W) : BlF B b l W := by
  have hat : ∀ p, Lib.BuilderAtF 70 5 B b p (bsV l) w → Lib.BuilderAtF 70 5 B b p (bsV l) W := by
    rintro p ⟨h1, v, h2, h3, h4⟩
    exact ⟨h1, v, (hE.below.block b (lt_of_block h2)).trans h2, h3.kept (row := none) ⟨hE.os, hE.tape, hE.output, hE.size, fun i hi _ => hE.below.block i hi⟩ (by cases v.ownBlock with | none => exact .inl rfl | some j => exact .inr (by simp)), h4⟩
  rcases h with h | h
  · exact .inl (hat _ h)
  · exact .inr (hat _ h)
theorem BlF.alloc {B b : Nat} {l : List UInt8} {w : World} (h : BlF B b l w) (o : Obj) : BlF B b l (w.alloc o) := Lib.IsBuilderF.alloc h o

set_option maxHeartbeats 2000000 in
set_option maxRecDepth 100000 in
theorem argument_of (KW : World → Prop) (N : Nat) (hN : N ≤ 1000000000) (B b : Nat) (l t : List UInt8) (e : Ex) (p : Option Addr) (c : Nat) (limit : Int) (w : World) (hk : e.kind = 4 → knownB e.op = true) (hA : AtB (· < B) w p e) (hBl : BlF B b l w) (hBw : B ≤ w.heap.size) (hlen : l.length + (brk limit (prec e) t).length ≤ N) (hKB : ∀ W W', Below B W W' → KW W → KW W') (hKw : KW w)
    (hw : ∀ W l', KW W → AtB (· < B) W p e → BlF B b l' W → l'.length + t.length ≤ N → B ≤ W.heap.size → Calls Tryz.prog 53 #[.pointer (some ⟨b, 0, none⟩), e.val p c] W fun r w' => r = .returned (.tuple #[]) ∧ BlF B b (l' ++ t) w' ∧ WK B b W w') :
    Calls Tryz.prog 85 #[.pointer (some ⟨b, 0, none⟩), e.val p c, .int .i64 limit] w fun r w' => r = .returned (.tuple #[]) ∧ BlF B b (l ++ brk limit (prec e) t) w' ∧ WK B b w w' := by
  have C1 := Lib.hid (fun W => show Gives _ _ #[.agg #[.int .i64 e.kind, .int .i64 e.op, sV e.name, .int .i64 e.value, .slice p e.args.length c]] _ _ from precedence_any e hk p c W)
  have C2 := Lib.hid (fun W l' (h : WK B b w W) (h1 : BlF B b l' W) (h2 : l'.length + t.length ≤ N) => show Calls _ _ #[_, .agg #[.int .i64 e.kind, .int .i64 e.op, sV e.name, .int .i64 e.value, .slice p e.args.length c]] _ _ from hw W l' (hKB _ _ h.1 hKw) (hA.keep fun k hk hl => ⟨hk, h.1.block k hk⟩) h1 h2 (Nat.le_trans hBw h.1.size))
  have hv : e.val p c = .agg #[.int .i64 e.kind, .int .i64 e.op, sV e.name, .int .i64 e.value, .slice p e.args.length c] := rfl
  rw [hv]
  clear hv hw hA hk hKB hKw
  generalize prec e = pe at *
  generalize e.kind = k1 at *
  generalize e.op = o1 at *
  generalize e.name = n1 at *
  generalize e.value = v1 at *
  generalize e.args.length = l1 at *
  have HBl := Lib.hid hBl
  have hE := (Below.refl w.heap.size w).alloc (Nat.le_refl _) (.cells #[.int .i64 k1, .int .i64 o1, sV n1, .int .i64 v1, .slice p l1 c] tEx)
  have HX := Lib.hid (And.intro (alloc_here w (.cells #[.int .i64 k1, .int .i64 o1, sV n1, .int .i64 v1, .slice p l1 c] tEx)) (And.intro (hBl.alloc (.cells #[.int .i64 k1, .int .i64 o1, sV n1, .int .i64 v1, .slice p l1 c] tEx)) (show Ext w _ from hE)))
  clear hBl hE
  go_enter_defers Tryz.func85, Tryz.ntmps85
  go_wp2_with fail
  refine (C1.out _).mono ?_
  intro w1 hB1
  replace hB1 : Ext _ w1 := hB1
  have hbx : w1.heap[w.heap.size]? = _ := (hB1.below.block _ (lt_of_block HX.out.1)).trans HX.out.1
  have hE1 : Ext w w1 := Ext.trans HX.out.2.2 hB1
  have hbl1 := HBl.out.ext hE1
  have hne := hbl1.ne hbx
  have HY := Lib.hid (And.intro hbx (And.intro hE1 (And.intro hbl1 hne)))
  clear hbx hE1 hbl1 hne hB1 HX C1
  by_cases hlt : pe < limit
  · have hg : decide (pe < limit) = true := by simpa using hlt
    have HT := Lib.hid (show brk limit pe t = [40] ++ t ++ [41] by unfold brk; rw [if_pos hlt])
    have hBw1 := Nat.le_trans hBw HY.out.2.1.size
    rw [HT.out] at hlen
    simp only [List.length_append, List.length_cons, List.length_nil] at hlen
    clear hlt
    go_wp2_with fail
    refine (wk_writeByte B b l 40 40 rfl w1 HY.out.2.2.1 (by omega) hBw1).mono ?_
    rintro _ w2 ⟨rfl, hbl2, hk2⟩
    have hbx2 := hk2.box HY.out.1 HY.out.2.2.2
    obtain ⟨x0, x1, x2, x3, x4, f0⟩ := box5 hbx2
    have HW2 := Lib.hid ((WK.of_ext (b := b) HY.out.2.1 hBw).trans hk2)
    have HL2 := Lib.hid hbl2
    clear hbx2 hk2 hbl2
    go_wp2_with fail
    refine (C2.out w2 _ HW2.out HL2.out (by simp; omega)).mono ?_
    rintro _ w3 ⟨rfl, hbl3, hk3⟩
    have HW3 := Lib.hid (HW2.out.trans hk3)
    have HL3 := Lib.hid hbl3
    clear x0 x1 x2 x3 x4 f0 hbl3 hk3 HW2 HL2
    go_wp2
    refine leaves_cons (f := 103) (args := #[.pointer (some ⟨b, 0, none⟩), .int .u8 41]) (by simp) (by simp [go_sem]) ?_
    refine (writeByte_deferred B b _ 41 41 rfl .returning w3 HL3.out (by simp; omega) (Nat.le_trans hBw HW3.out.1.size)).mono ?_
    rintro e u' w'' ⟨rfl, rfl, hbl, hk⟩
    refine ⟨.tuple #[], by simp [results, Tryz.f85, go_sem], rfl, ?_, HW3.out.trans hk⟩
    rw [HT.out]
    simpa [List.append_assoc] using hbl
  · have hg : decide (pe < limit) = false := by simpa using hlt
    have HT := Lib.hid (show brk limit pe t = t by unfold brk; rw [if_neg hlt])
    obtain ⟨x0, x1, x2, x3, x4, f0⟩ := box5 HY.out.1
    rw [HT.out] at hlen
    clear hlt
    go_wp2_with fail
    refine (C2.out w1 l (WK.of_ext HY.out.2.1 hBw) HY.out.2.2.1 (by omega)).mono ?_
    rintro _ w3 ⟨rfl, hbl3, hk3⟩
    have HW3 := Lib.hid ((WK.of_ext (b := b) HY.out.2.1 hBw).trans hk3)
    have HL3 := Lib.hid hbl3
    clear x0 x1 x2 x3 x4 f0 hbl3 hk3
    go_wp2
    refine ⟨.tuple #[], by simp [results, Tryz.f85, go_sem], rfl, ?_, HW3.out⟩
    rw [HT.out]
    exact HL3.out

end Go.Proofs.YtmokejjndkibhaaGreatDoor

namespace Go.Proofs.YtmokejjndkibhaaGreatDoor
open Go.RowKit Go.Shelf
set_option linter.unusedVariables false
set_option linter.unusedSimpArgs false
open Ex

theorem WK.boxT {B b : Nat} {w w' : World} {T : TypeId} (h : WK B b w w') (hT : T ≠ 5) {k : Nat} {c : Array Value} {f : Nat × Nat} (hk : w.heap[k]? = some (.cells c T f)) (hb : k ≠ b) : w'.heap[k]? = some (.cells c T f) :=
  h.2 k _ hk (by simpa using hb) (fun c' fz e => by cases e; exact hT rfl)
theorem BlF.neT {B b : Nat} {l : List UInt8} {w : World} {T : TypeId} (h : BlF B b l w) (hT : T ≠ 70) {k : Nat} {c : Array Value} {f : Nat × Nat} (hk : w.heap[k]? = some (.cells c T f)) : k ≠ b := by
  rintro rfl
  rcases h with ⟨_, v, hb, _⟩ | ⟨_, v, hb, _⟩ <;> (rw [hk] at hb; cases hb; exact hT rfl)
/-- argument writes what f says -/
def ArgW (N B b : Nat) (w : World) (v : Value) (f : Int → List UInt8) : Prop := ∀ lim l' W, WK B b w W → BlF B b l' W → l'.length + (f lim).length ≤ N →
  Calls Tryz.prog 85 #[.pointer (some ⟨b, 0, none⟩), v, .int .i64 lim] W fun r w' => r = .returned (.tuple #[]) ∧ BlF B b (l' ++ f lim) w' ∧ WK B b W w'
/-- five cells that stay -/
def KeepC (B b : Nat) (w : World) (g off : Nat) (x0 x1 x2 x3 x4 : Value) : Prop := ∀ W, WK B b w W →
  W.cell? ⟨g, off, none⟩ = some x0 ∧ W.cell? ⟨g, off + 1, none⟩ = some x1 ∧ W.cell? ⟨g, off + 2, none⟩ = some x2 ∧ W.cell? ⟨g, off + 3, none⟩ = some x3 ∧ W.cell? ⟨g, off + 4, none⟩ = some x4

set_option maxHeartbeats 4000000 in
set_option maxRecDepth 100000 in
theorem write_num (KW : World → Prop) (N : Nat) (hN : N ≤ 1000000000) (B b : Nat) (v : Int) (t : List UInt8) (HI : ∀ W, KW W → Calls Tryz.prog 84 #[.int .i64 v] W fun r w' => r = .returned (sV t) ∧ Ext W w') (p : Option Addr) (c : Nat) (l : List UInt8) (w : World) (hKB : ∀ W W', Below B W W' → KW W → KW W') (hKw : KW w) (hBl : BlF B b l w) (hBw : B ≤ w.heap.size) (hlen : l.length + t.length ≤ N) :
    Calls Tryz.prog 53 #[.pointer (some ⟨b, 0, none⟩), .agg #[.int .i64 1, .int .i64 0, sV [], .int .i64 v, .slice p 0 c]] w fun r w' => r = .returned (.tuple #[]) ∧ BlF B b (l ++ t) w' ∧ WK B b w w' := by
  have hE := (Below.refl w.heap.size w).alloc (Nat.le_refl _) (.cells #[.int .i64 1, .int .i64 0, sV [], .int .i64 v, .slice p 0 c] tEx)
  have HX := Lib.hid (And.intro (alloc_here w (.cells #[.int .i64 1, .int .i64 0, sV [], .int .i64 v, .slice p 0 c] tEx)) (And.intro (hBl.ext hE) (show Ext w _ from hE)))
  have hx0 := HX.out.1
  have HNE := Lib.hid (HX.out.2.1.ne hx0)
  have HS1 := Lib.hid (show B ≤ (w.alloc (.cells #[.int .i64 1, .int .i64 0, sV [], .int .i64 v, .slice p 0 c] tEx)).heap.size by simp; omega)
  clear hE hx0
  have C1 := Lib.hid (fun W h => HI W h)
  have HKW := Lib.hid (hKB _ _ (HX.out.2.2.below.mono hBw) hKw)
  clear HI hKB hKw
  go_enter Tryz.func53, Tryz.ntmps53
  go_wp2_with fail
  refine (C1.out _ HKW.out).mono ?_
  rintro _ w1 ⟨rfl, hE1⟩
  replace hE1 : Ext _ w1 := hE1
  have HB1 := Lib.hid (HX.out.2.1.ext hE1)
  have HE1 := Lib.hid hE1
  have hs := Nat.le_trans HS1.out hE1.size
  clear hE1
  go_wp2_with fail
  refine (wk_writeString B b l t w1 HB1.out (by omega) hs).mono ?_
  rintro _ w2 ⟨rfl, hbl, hk⟩
  have HR := Lib.hid (And.intro hbl ((WK.of_ext (b := b) (Ext.trans HX.out.2.2 HE1.out) hBw).trans hk))
  clear hbl hk
  go_wp2
  go_end0
  exact ⟨rfl, HR.out.1, HR.out.2⟩

set_option maxHeartbeats 4000000 in
set_option maxRecDepth 100000 in
theorem write_nam (N : Nat) (hN : N ≤ 1000000000) (B b : Nat) (nm : List UInt8) (p : Option Addr) (c : Nat) (l : List UInt8) (w : World) (hBl : BlF B b l w) (hBw : B ≤ w.heap.size) (hlen : l.length + nm.length ≤ N) :
    Calls Tryz.prog 53 #[.pointer (some ⟨b, 0, none⟩), .agg #[.int .i64 2, .int .i64 0, sV nm, .int .i64 0, .slice p 0 c]] w fun r w' => r = .returned (.tuple #[]) ∧ BlF B b (l ++ nm) w' ∧ WK B b w w' := by
  have hE := (Below.refl w.heap.size w).alloc (Nat.le_refl _) (.cells #[.int .i64 2, .int .i64 0, sV nm, .int .i64 0, .slice p 0 c] tEx)
  have HX := Lib.hid (And.intro (alloc_here w (.cells #[.int .i64 2, .int .i64 0, sV nm, .int .i64 0, .slice p 0 c] tEx)) (And.intro (hBl.ext hE) (show Ext w _ from hE)))
  have hx0 := HX.out.1
  have HNE := Lib.hid (HX.out.2.1.ne hx0)
  have HS1 := Lib.hid (show B ≤ (w.alloc (.cells #[.int .i64 2, .int .i64 0, sV nm, .int .i64 0, .slice p 0 c] tEx)).heap.size by simp; omega)
  clear hE hx0
  go_enter Tryz.func53, Tryz.ntmps53
  go_wp2_with fail
  refine (wk_writeString B b l nm _ HX.out.2.1 (by omega) HS1.out).mono ?_
  rintro _ w2 ⟨rfl, hbl, hk⟩
  have HR := Lib.hid (And.intro hbl ((WK.of_ext (b := b) HX.out.2.2 hBw).trans hk))
  clear hbl hk
  go_wp2
  go_end0
  exact ⟨rfl, HR.out.1, HR.out.2⟩

set_option maxHeartbeats 4000000 in
set_option maxRecDepth 100000 in
theorem write_un1 (N : Nat) (hN : N ≤ 1000000000) (B b : Nat) (f : Int → List UInt8) (k1 o1 : Int) (n1 : List UInt8) (v1 : Int) (q : Option Addr) (l1 cc b0 off c : Nat) (l : List UInt8) (w : World) (hBl : BlF B b l w) (hBw : B ≤ w.heap.size)
    (hA : ArgW N B b w (.agg #[.int .i64 k1, .int .i64 o1, sV n1, .int .i64 v1, .slice q l1 cc]) f) (hC : KeepC B b w b0 off (.int .i64 k1) (.int .i64 o1) (sV n1) (.int .i64 v1) (.slice q l1 cc)) (hlen : l.length + ([45] ++ f 6).length ≤ N) :
    Calls Tryz.prog 53 #[.pointer (some ⟨b, 0, none⟩), .agg #[.int .i64 3, .int .i64 1, sV [], .int .i64 0, .slice (some ⟨b0, off, none⟩) 1 c]] w fun r w' => r = .returned (.tuple #[]) ∧ BlF B b (l ++ ([45] ++ f 6)) w' ∧ WK B b w w' := by
  have hE := (Below.refl w.heap.size w).alloc (Nat.le_refl _) (.cells #[.int .i64 3, .int .i64 1, sV [], .int .i64 0, .slice (some ⟨b0, off, none⟩) 1 c] tEx)
  have HX := Lib.hid (And.intro (alloc_here w (.cells #[.int .i64 3, .int .i64 1, sV [], .int .i64 0, .slice (some ⟨b0, off, none⟩) 1 c] tEx)) (And.intro (hBl.ext hE) (show Ext w _ from hE)))
  have hx0 := HX.out.1
  have HNE := Lib.hid (HX.out.2.1.ne hx0)
  have HS1 := Lib.hid (show B ≤ (w.alloc (.cells #[.int .i64 3, .int .i64 1, sV [], .int .i64 0, .slice (some ⟨b0, off, none⟩) 1 c] tEx)).heap.size by simp; omega)
  clear hE hx0
  have HA := Lib.hid hA
  have HC := Lib.hid hC
  clear hA hC
  go_enter Tryz.func53, Tryz.ntmps53
  go_wp2_with fail
  refine (wk_writeString B b l [45] _ (HX.out.2.1.alloc _) (by simp at hlen ⊢; omega) (by have := HS1.out; simp at this ⊢; omega)).mono ?_
  rintro _ w2 ⟨rfl, hbl2, hk2⟩
  have hE2 : Ext w _ := HX.out.2.2.alloc (by simp <;> omega) (.cells #[sV [], sV [45], sV [33]] 9)
  have HW2 := Lib.hid ((WK.of_ext (b := b) hE2 hBw).trans hk2)
  have hbx2 := hk2.boxT (by decide) ((Below.heap_alloc _ _ _ (by simp)).trans HX.out.1) HNE.out
  obtain ⟨x0, x1, x2, x3, x4, f0⟩ := box5 hbx2
  obtain ⟨y0, y1, y2, y3, y4⟩ := HC.out w2 HW2.out
  have HL2 := Lib.hid hbl2
  clear hbl2 hk2 hbx2 hE2
  go_wp2_with fail
  refine (HA.out _ _ w2 HW2.out HL2.out (by simp at hlen ⊢; omega)).mono ?_
  rintro _ w3 ⟨rfl, hbl3, hk3⟩
  have HW3 := Lib.hid (HW2.out.trans hk3)
  have HL3 := Lib.hid hbl3
  clear x0 x1 x2 x3 x4 f0 y0 y1 y2 y3 y4 hbl3 hk3
  go_wp2
  go_end0
  exact ⟨rfl, by simpa using HL3.out, HW3.out⟩

set_option maxHeartbeats 4000000 in
set_option maxRecDepth 100000 in
theorem write_un2 (N : Nat) (hN : N ≤ 1000000000) (B b : Nat) (f : Int → List UInt8) (k1 o1 : Int) (n1 : List UInt8) (v1 : Int) (q : Option Addr) (l1 cc b0 off c : Nat) (l : List UInt8) (w : World) (hBl : BlF B b l w) (hBw : B ≤ w.heap.size)
    (hA : ArgW N B b w (.agg #[.int .i64 k1, .int .i64 o1, sV n1, .int .i64 v1, .slice q l1 cc]) f) (hC : KeepC B b w b0 off (.int .i64 k1) (.int .i64 o1) (sV n1) (.int .i64 v1) (.slice q l1 cc)) (hlen : l.length + ([33] ++ f 6).length ≤ N) :
    Calls Tryz.prog 53 #[.pointer (some ⟨b, 0, none⟩), .agg #[.int .i64 3, .int .i64 2, sV [], .int .i64 0, .slice (some ⟨b0, off, none⟩) 1 c]] w fun r w' => r = .returned (.tuple #[]) ∧ BlF B b (l ++ ([33] ++ f 6)) w' ∧ WK B b w w' := by
  have hE := (Below.refl w.heap.size w).alloc (Nat.le_refl _) (.cells #[.int .i64 3, .int .i64 2, sV [], .int .i64 0, .slice (some ⟨b0, off, none⟩) 1 c] tEx)
  have HX := Lib.hid (And.intro (alloc_here w (.cells #[.int .i64 3, .int .i64 2, sV [], .int .i64 0, .slice (some ⟨b0, off, none⟩) 1 c] tEx)) (And.intro (hBl.ext hE) (show Ext w _ from hE)))
  have hx0 := HX.out.1
  have HNE := Lib.hid (HX.out.2.1.ne hx0)
  have HS1 := Lib.hid (show B ≤ (w.alloc (.cells #[.int .i64 3, .int .i64 2, sV [], .int .i64 0, .slice (some ⟨b0, off, none⟩) 1 c] tEx)).heap.size by simp; omega)
  clear hE hx0
  have HA := Lib.hid hA
  have HC := Lib.hid hC
  clear hA hC
  go_enter Tryz.func53, Tryz.ntmps53
  go_wp2_with fail
  refine (wk_writeString B b l [33] _ (HX.out.2.1.alloc _) (by simp at hlen ⊢; omega) (by have := HS1.out; simp at this ⊢; omega)).mono ?_
  rintro _ w2 ⟨rfl, hbl2, hk2⟩
  have hE2 : Ext w _ := HX.out.2.2.alloc (by simp <;> omega) (.cells #[sV [], sV [45], sV [33]] 9)
  have HW2 := Lib.hid ((WK.of_ext (b := b) hE2 hBw).trans hk2)
  have hbx2 := hk2.boxT (by decide) ((Below.heap_alloc _ _ _ (by simp)).trans HX.out.1) HNE.out
  obtain ⟨x0, x1, x2, x3, x4, f0⟩ := box5 hbx2
  obtain ⟨y0, y1, y2, y3, y4⟩ := HC.out w2 HW2.out
  have HL2 := Lib.hid hbl2
  clear hbl2 hk2 hbx2 hE2
  go_wp2_with fail
  refine (HA.out _ _ w2 HW2.out HL2.out (by simp at hlen ⊢; omega)).mono ?_
  rintro _ w3 ⟨rfl, hbl3, hk3⟩
  have HW3 := Lib.hid (HW2.out.trans hk3)
  have HL3 := Lib.hid hbl3
  clear x0 x1 x2 x3 x4 f0 y0 y1 y2 y3 y4 hbl3 hk3
  go_wp2
  go_end0
  exact ⟨rfl, by simpa using HL3.out, HW3.out⟩

end Go.Proofs.YtmokejjndkibhaaGreatDoor

namespace Go.Proofs.YtmokejjndkibhaaGreatDoor
open Go.RowKit Go.Shelf
set_option linter.unusedVariables false
set_option linter.unusedSimpArgs false
open Ex

theorem opOf_prec (o : Int) (hk : knownB o = true) : 1 ≤ (opOf o).prec ∧ (opOf o).prec ≤ 5 := by
  unfold knownB at hk
  obtain ⟨h1, h2⟩ := of_decide_eq_true hk
  obtain ⟨n, rfl⟩ : ∃ n : Nat, o = n := ⟨o.toNat, by omega⟩
  have : ∀ n : Nat, n < 16 → 3 ≤ n → 1 ≤ (opOf (n : Int)).prec ∧ (opOf (n : Int)).prec ≤ 5 := by decide
  exact this n (by omega) (by omega)

set_option maxHeartbeats 2000000 in
set_option maxRecDepth 100000 in
theorem write_bin (N : Nat) (hN : N ≤ 1000000000) (B b : Nat) (f g : Int → List UInt8) (o : Int) (hk : knownB o = true) (k1 o1 : Int) (n1 : List UInt8) (v1 : Int) (q : Option Addr) (l1 cc : Nat) (k2 o2 : Int) (n2 : List UInt8) (v2 : Int) (q2 : Option Addr) (l2 cc2 : Nat) (b0 off c : Nat) (l : List UInt8) (w : World) (hBl : BlF B b l w) (hBw : B ≤ w.heap.size)
    (hA : ArgW N B b w (.agg #[.int .i64 k1, .int .i64 o1, sV n1, .int .i64 v1, .slice q l1 cc]) f) (hC : KeepC B b w b0 off (.int .i64 k1) (.int .i64 o1) (sV n1) (.int .i64 v1) (.slice q l1 cc))
    (hA2 : ArgW N B b w (.agg #[.int .i64 k2, .int .i64 o2, sV n2, .int .i64 v2, .slice q2 l2 cc2]) g) (hC2 : KeepC B b w b0 (off + 5) (.int .i64 k2) (.int .i64 o2) (sV n2) (.int .i64 v2) (.slice q2 l2 cc2))
    (t : List UInt8) (ht : t = f (if (opOf o).prec = 3 then 4 else (opOf o).prec) ++ [32] ++ (opOf o).sign ++ [32] ++ g ((opOf o).prec + 1)) (hlen : l.length + t.length ≤ N) :
    Calls Tryz.prog 53 #[.pointer (some ⟨b, 0, none⟩), .agg #[.int .i64 4, .int .i64 o, sV [], .int .i64 0, .slice (some ⟨b0, off, none⟩) 2 c]] w fun r w' => r = .returned (.tuple #[]) ∧ BlF B b (l ++ t) w' ∧ WK B b w w' := by
  have hE := (Below.refl w.heap.size w).alloc (Nat.le_refl _) (.cells #[.int .i64 4, .int .i64 o, sV [], .int .i64 0, .slice (some ⟨b0, off, none⟩) 2 c] tEx)
  have HX := Lib.hid (And.intro (alloc_here w (.cells #[.int .i64 4, .int .i64 o, sV [], .int .i64 0, .slice (some ⟨b0, off, none⟩) 2 c] tEx)) (And.intro (hBl.ext hE) (show Ext w _ from hE)))
  have hx0 := HX.out.1
  have HNE := Lib.hid (HX.out.2.1.ne hx0)
  have HS1 := Lib.hid (show B ≤ (w.alloc (.cells #[.int .i64 4, .int .i64 o, sV [], .int .i64 0, .slice (some ⟨b0, off, none⟩) 2 c] tEx)).heap.size by simp; omega)
  clear hE hx0
  have HA := Lib.hid hA
  have HC := Lib.hid hC
  have HA2 := Lib.hid hA2
  have HC2 := Lib.hid hC2
  have hP := opOf_prec o hk
  have hbx := HX.out.1
  have HTX := Lib.hid ht
  clear hA hC hA2 hC2 ht
  go_enter Tryz.func53, Tryz.ntmps53
  go_wp2_with fail
  generalize w.alloc (.cells #[.int .i64 4, .int .i64 o, sV [], .int .i64 0, .slice (some ⟨b0, off, none⟩) 2 c] tEx) = w1 at *
  have hltx := lt_of_block hbx
  refine wp_region_g (by kernel_rfl) (Grow w1.heap.size tOp (opF (o))) (Grow.drawn _ _ _) Grow.trans (op25 (w.heap.size) w1.heap.size (o)) op25D (op25_st (w.heap.size) _ (o)) (by kernel_rfl) (by kernel_rfl) (by kernel_rfl) 69 rfl (by kernel_rfl) ?_ ?_
  · intro i op ho a' W hA
    have hb : W.heap[w.heap.size]? = some (.cells #[.int .i64 4, .int .i64 o, sV [], .int .i64 0, .slice (some ⟨b0, off, none⟩) 2 c] tEx (0, 0)) := (hA.rel.low hltx hltx).trans hbx
    have c1 : W.cell? ⟨w.heap.size, 1, none⟩ = some (.int .i64 (o)) := cell_of hb rfl
    match i, ho with
    | 0, ho =>
      obtain rfl := Option.some.inj ho
      refine GoesG.call 86 #[] rfl ?_ ((operators_any W).mono ?_)
      · simp [execOp, resolve, invoke, Deferred.ofValue]
        rfl
      · rintro e W1 ⟨b, rfl, hO, hE⟩
        exact ⟨_, rfl, Grow.of_ext hE, fun s h1 h2 => ⟨b, h1 rfl, hO⟩⟩
    | 1, ho =>
      obtain rfl := Option.some.inj ho
      have e1 : a'.eval (.tmp 3) = .pointer (some ⟨w.heap.size, 0, none⟩) := hA.keep 3 (by kernel_rfl)
      refine GoesG.value (.pointer (some ⟨w.heap.size, 1, none⟩)) rfl ?_ (Grow.refl _ _ _ _) (fun s h1 h2 => h1 rfl)
      simp only [execOp, e1]
      simp [go_sem]
    | 2, ho =>
      obtain rfl := Option.some.inj ho
      have e1 : a'.eval (.tmp 9) = .pointer (some ⟨w.heap.size, 1, none⟩) := (sv_dst (l := _) rfl).symm.trans (hA.new 1 (by decide) (by kernel_rfl))
      refine GoesG.value (.int .i64 (o)) rfl ?_ (Grow.refl _ _ _ _) (fun s h1 h2 => h1 rfl)
      simp only [execOp, e1]
      simp [go_sem, c1]
    | 3, ho =>
      obtain rfl := Option.some.inj ho
      obtain ⟨b, e0, hO⟩ := hA.new 0 (by decide) (by kernel_rfl)
      have e1 : a'.eval (.tmp 8) = .map (some b) := (sv_dst (l := _) rfl).symm.trans e0
      have e2 : a'.eval (.tmp 10) = .int .i64 (o) := (sv_dst (l := _) rfl).symm.trans (hA.new 2 (by decide) (by kernel_rfl))
      obtain ⟨fv, hf, hr⟩ := ops_yes hO (o) hk
      have hrun := hr false
      refine GoesG.value ((opOf (o)).val fv) rfl ?_ (Grow.refl _ _ _ _) (fun s h1 h2 => ⟨fv, h1 rfl, fnOk_one hf⟩)
      simp only [execOp, e1, e2, Sem.run_bind, hrun, Result.andThen_ok, Sem.run_pure]
      rfl
    | 4, ho =>
      obtain rfl := Option.some.inj ho
      refine GoesG.value (.pointer (some ⟨W.heap.size, 0, none⟩)) (W' := W.alloc (.cells #[sV [], .int .i64 0, .int .i64 0, .int .i64 0, .nilFunc] tOp)) rfl ?_ (Grow.of_ext ((Below.refl _ W).alloc (Nat.le_refl _) _)) (fun s h1 h2 => ⟨_, _, h1 rfl, hA.rel.size, alloc_here _ _, rfl⟩)
      simp only [execOp]
      simp [go_sem]
      rfl
    | 5, ho =>
      obtain rfl := Option.some.inj ho
      obtain ⟨g, cc, e0, hB2, hg, hcc⟩ := hA.new 4 (by decide) (by kernel_rfl)
      obtain ⟨fv, e5, hone⟩ := hA.new 3 (by decide) (by kernel_rfl)
      have e1 : a'.eval (.tmp 4) = .pointer (some ⟨g, 0, none⟩) := (sv_dst (l := _) rfl).symm.trans e0
      have e2 : a'.eval (.tmp 11) = .agg #[sV (opOf (o)).sign, .int .i64 (opOf (o)).prec, .int .i64 (opOf (o)).arg, .int .i64 (opOf (o)).res, fv] := (sv_dst (l := _) rfl).symm.trans e5
      exact GoesG.store rfl tOp (.tmp 4) (.tmp 11) rfl g _ e1 e2 tOp cc hg (by kernel_rfl) hcc (by simp [Value.oneCell']; exact hone) rfl (Grow.row hg hB2 hcc.symm ⟨fv, rfl⟩)
        (fun s h2 => ⟨g, _, (h2 4 (by decide) (by kernel_rfl)).trans e0, hB2, setRow_heap _ _ _ _ _ _ hg, fv, rfl⟩)
    | i + 6, ho => cases ho
  · intro vs W3 hvs hG hΦ
    obtain ⟨u0, u1, u2, u3, u4, u5, rfl⟩ := six vs hvs
    obtain ⟨g2, cc, hu4, hBg, hg2, fv, hcc⟩ : ∃ g cc, u4 = .pointer (some ⟨g, 0, none⟩) ∧ w1.heap.size ≤ g ∧ W3.heap[g]? = some (.cells cc tOp (0, 0)) ∧ opF (o) cc := hΦ 5 (by decide)
    subst hcc hu4
    have hW3 : Ext w1 W3 := hG.ext
    clear hΦ hG hvs
    simp only [putAll, Act.put, List.setIfInBounds_toArray, List.set_cons_succ, List.set_cons_zero]
    have hEx := Ext.trans HX.out.2.2 hW3
    have HW3 := Lib.hid (WK.of_ext (b := b) hEx hBw)
    have HL3 := Lib.hid (HX.out.2.1.ext hW3)
    have HB3 := Lib.hid ((hW3.below.block _ (lt_of_block hbx)).trans hbx)
    have HG3 := Lib.hid hg2
    have HNG := Lib.hid (HL3.out.neT (by decide) hg2)
    clear hltx hbx hW3 hEx hk HX
    generalize (opOf o).prec = pr at *
    generalize (opOf o).sign = sg at *
    obtain ⟨z0, z1, z2, z3, z4, z5⟩ := box5 HB3.out
    obtain ⟨g0, g1, g4⟩ : W3.cell? ⟨g2, 0, none⟩ = some (sV sg) ∧ W3.cell? ⟨g2, 1, none⟩ = some (.int .i64 pr) ∧ True := ⟨cell_of HG3.out rfl, cell_of HG3.out rfl, trivial⟩
    obtain ⟨y0, y1, y2, y3, y4⟩ := HC.out W3 HW3.out
    clear g4 hg2 z5
    by_cases h3 : pr = 3
    · subst h3
      have HT := Lib.hid (show t = f 4 ++ ([32] ++ sg ++ [32]) ++ g (4) by rw [HTX.out]; simp)
      clear HTX
      have hlen' := hlen
      rw [HT.out] at hlen'
      simp only [List.length_append, List.length_cons, List.length_nil] at hlen'

      go_wp2_with fail
      refine (HA.out _ l W3 HW3.out HL3.out (by omega)).mono ?_
      rintro _ w4 ⟨rfl, hbl4, hk4⟩
      have HW4 := Lib.hid (HW3.out.trans hk4)
      have HL4 := Lib.hid hbl4
      have HB4 := Lib.hid (hk4.boxT (by decide) HB3.out HNE.out)
      have HG4 := Lib.hid (hk4.boxT (by decide) HG3.out HNG.out)
      clear z0 z1 z2 z3 z4 g0 g1 y0 y1 y2 y3 y4 hbl4 hk4
      obtain ⟨g0, g1⟩ : w4.cell? ⟨g2, 0, none⟩ = some (sV sg) ∧ w4.cell? ⟨g2, 1, none⟩ = some (.int .i64 3) := ⟨cell_of HG4.out rfl, cell_of HG4.out rfl⟩
      go_wp2_with fail
      refine (wk_writeString B b _ ([32] ++ sg ++ [32]) w4 HL4.out (by simp only [List.length_append, List.length_cons, List.length_nil]; omega) (Nat.le_trans hBw HW4.out.1.size)).mono ?_
      rintro _ w5 ⟨rfl, hbl5, hk5⟩
      have HW5 := Lib.hid (HW4.out.trans hk5)
      have HL5 := Lib.hid hbl5
      have HB5 := Lib.hid (hk5.boxT (by decide) HB4.out HNE.out)
      have HG5 := Lib.hid (hk5.boxT (by decide) HG4.out HNG.out)
      clear g0 g1 hbl5 hk5
      obtain ⟨g0, g1⟩ : w5.cell? ⟨g2, 0, none⟩ = some (sV sg) ∧ w5.cell? ⟨g2, 1, none⟩ = some (.int .i64 3) := ⟨cell_of HG5.out rfl, cell_of HG5.out rfl⟩
      obtain ⟨z0, z1, z2, z3, z4, z5⟩ := box5 HB5.out
      obtain ⟨y0, y1, y2, y3, y4⟩ := HC2.out w5 HW5.out
      clear z5
      go_wp2_with fail
      have hEd : Ext w5 w5.drew := (Below.refl _ w5).drew
      have hs5 := Nat.le_trans hBw HW5.out.1.size
      go_still_tail 8, (by kernel_rfl)
      have HW6 := Lib.hid (HW5.out.trans (WK.of_ext (b := b) hEd hs5))
      have HL6 := Lib.hid (HL5.out.ext hEd)
      clear z0 z1 z2 z3 z4 g0 g1 y0 y1 y2 y3 y4 hEd
      go_wp2_with fail
      refine (HA2.out (4) _ w5.drew HW6.out HL6.out (by simp only [List.length_append, List.length_cons, List.length_nil]; omega)).mono ?_
      rintro _ w7 ⟨rfl, hbl7, hk7⟩
      have HR := Lib.hid (And.intro hbl7 (HW6.out.trans hk7))
      clear hbl7 hk7
      go_wp2
      go_end0
      exact ⟨rfl, by rw [HT.out]; simpa [List.append_assoc] using HR.out.1, HR.out.2⟩
    · have h3b : (pr == 3) = false := by simpa using h3
      have HT := Lib.hid (show t = f pr ++ ([32] ++ sg ++ [32]) ++ g (pr + 1) by rw [HTX.out]; rw [if_neg h3]; simp)
      clear HTX
      have hlen' := hlen
      rw [HT.out] at hlen'
      simp only [List.length_append, List.length_cons, List.length_nil] at hlen'
      clear h3
      go_wp2_with fail
      refine (HA.out _ l W3 HW3.out HL3.out (by omega)).mono ?_
      rintro _ w4 ⟨rfl, hbl4, hk4⟩
      have HW4 := Lib.hid (HW3.out.trans hk4)
      have HL4 := Lib.hid hbl4
      have HB4 := Lib.hid (hk4.boxT (by decide) HB3.out HNE.out)
      have HG4 := Lib.hid (hk4.boxT (by decide) HG3.out HNG.out)
      clear z0 z1 z2 z3 z4 g0 g1 y0 y1 y2 y3 y4 hbl4 hk4
      obtain ⟨g0, g1⟩ : w4.cell? ⟨g2, 0, none⟩ = some (sV sg) ∧ w4.cell? ⟨g2, 1, none⟩ = some (.int .i64 pr) := ⟨cell_of HG4.out rfl, cell_of HG4.out rfl⟩
      go_wp2_with fail
      refine (wk_writeString B b _ ([32] ++ sg ++ [32]) w4 HL4.out (by simp only [List.length_append, List.length_cons, List.length_nil]; omega) (Nat.le_trans hBw HW4.out.1.size)).mono ?_
      rintro _ w5 ⟨rfl, hbl5, hk5⟩
      have HW5 := Lib.hid (HW4.out.trans hk5)
      have HL5 := Lib.hid hbl5
      have HB5 := Lib.hid (hk5.boxT (by decide) HB4.out HNE.out)
      have HG5 := Lib.hid (hk5.boxT (by decide) HG4.out HNG.out)
      clear g0 g1 hbl5 hk5
      obtain ⟨g0, g1⟩ : w5.cell? ⟨g2, 0, none⟩ = some (sV sg) ∧ w5.cell? ⟨g2, 1, none⟩ = some (.int .i64 pr) := ⟨cell_of HG5.out rfl, cell_of HG5.out rfl⟩
      obtain ⟨z0, z1, z2, z3, z4, z5⟩ := box5 HB5.out
      obtain ⟨y0, y1, y2, y3, y4⟩ := HC2.out w5 HW5.out
      clear z5
      go_wp2_with fail
      have hEd : Ext w5 w5.drew := (Below.refl _ w5).drew
      have hs5 := Nat.le_trans hBw HW5.out.1.size
      go_still_tail 8, (by kernel_rfl)
      have HW6 := Lib.hid (HW5.out.trans (WK.of_ext (b := b) hEd hs5))
      have HL6 := Lib.hid (HL5.out.ext hEd)
      clear z0 z1 z2 z3 z4 g0 g1 y0 y1 y2 y3 y4 hEd
      go_wp2_with fail
      refine (HA2.out (pr + 1) _ w5.drew HW6.out HL6.out (by simp only [List.length_append, List.length_cons, List.length_nil]; omega)).mono ?_
      rintro _ w7 ⟨rfl, hbl7, hk7⟩
      have HR := Lib.hid (And.intro hbl7 (HW6.out.trans hk7))
      clear hbl7 hk7
      go_wp2
      go_end0
      exact ⟨rfl, by rw [HT.out]; simpa [List.append_assoc] using HR.out.1, HR.out.2⟩

end Go.Proofs.YtmokejjndkibhaaGreatDoor

namespace Go.Proofs.YtmokejjndkibhaaGreatDoor
open Go.RowKit Go.Shelf
set_option linter.unusedVariables false
set_option linter.unusedSimpArgs false
open Ex

/-- all numbers of an expression -/
def nums (ok : Int → Prop) : Ex → Prop
  | .mk k _ _ v ts => (k = 1 → ok v) ∧ numsL ok ts
where numsL (ok : Int → Prop) : List Ex → Prop
  | [] => True
  | e :: es => nums ok e ∧ numsL ok es
theorem known_of {t : Ex} (h : t.fe = 0) (hk : t.kind = 4) : knownB t.op = true := by
  obtain ⟨k, o, n, v, ts⟩ := t
  rcases pc_zero (fe_mk h).1 with ⟨rfl, _⟩ | ⟨rfl, _⟩ | ⟨rfl, _⟩ | ⟨rfl, _, _, _, h1, h2⟩
  · cases hk
  · cases hk
  · cases hk
  · exact decide_eq_true (And.intro h1 h2)
theorem keepC_of {B b : Nat} {w : World} {g off : Nat} {t : Ex} {q : Option Addr} {cc : Nat} (hg : g < B) (h : cells w g off t q cc) :
    KeepC B b w g off (.int .i64 t.kind) (.int .i64 t.op) (sV t.name) (.int .i64 t.value) (.slice q t.args.length cc) := fun W hW => h.block (hW.1.block g hg)

set_option maxHeartbeats 1000000 in
theorem write_any (ok : Int → Prop) (dec : Int → List UInt8) (KW : World → Prop) (HI : ∀ v W, ok v → KW W → Calls Tryz.prog 84 #[.int .i64 v] W fun r w' => r = .returned (sV (dec v)) ∧ Ext W w') (N : Nat) (hN : N ≤ 1000000000) (B b : Nat) (hKB : ∀ W W', Below B W W' → KW W → KW W') :
    ∀ (n : Nat) (e : Ex), e.size ≤ n → e.fe = 0 → nums ok e → ∀ (p : Option Addr) (c : Nat) (l : List UInt8) (w : World), KW w → AtB (· < B) w p e → BlF B b l w → B ≤ w.heap.size → l.length + (txt dec e).length ≤ N →
      Calls Tryz.prog 53 #[.pointer (some ⟨b, 0, none⟩), e.val p c] w fun r w' => r = .returned (.tuple #[]) ∧ BlF B b (l ++ txt dec e) w' ∧ WK B b w w' := by
  intro n
  induction n with
  | zero => intro e he; have := e.size_pos; omega
  | succ n ih =>
    intro e he hfe hnum p c l w hKw hA hBl hBw hlen
    obtain ⟨k, o, nm, v, ts⟩ := e
    obtain ⟨hpc, hfes⟩ := fe_mk hfe
    have AR : ∀ (t : Ex) (q : Option Addr) (cc : Nat), t.size ≤ n → t.fe = 0 → nums ok t → AtB (· < B) w q t → ArgW N B b w (.agg #[.int .i64 t.kind, .int .i64 t.op, sV t.name, .int .i64 t.value, .slice q t.args.length cc]) (fun lim => brk lim (prec t) (txt dec t)) :=
      fun t q cc hs hf hn hAt lim l' W hW hb hl =>
        argument_of KW N hN B b l' (txt dec t) t q cc lim W (known_of hf) (hAt.keep fun k hk _ => ⟨hk, hW.1.block k hk⟩) hb (Nat.le_trans hBw hW.1.size) hl hKB (hKB _ _ hW.1 hKw) (fun W' l'' a0 a1 a2 a3 a4 => ih t hs hf hn q cc l'' W' a0 a1 a2 a4 a3)
    rcases pc_zero hpc with ⟨rfl, rfl, rfl, hm, hv1, hv2⟩ | ⟨rfl, rfl, rfl, hm, hnm⟩ | ⟨rfl, rfl, rfl, hm, ho⟩ | ⟨rfl, rfl, rfl, hm, ho1, ho2⟩
    · obtain rfl := List.eq_nil_of_length_eq_zero hm
      have HT : txt dec (.mk 1 0 [] v []) = dec v := by simp [txt]
      rw [HT] at hlen ⊢
      exact write_num KW N hN B b v (dec v) (fun W hW => HI v W (hnum.1 rfl) hW) p c l w hKB hKw hBl hBw hlen
    · obtain rfl := List.eq_nil_of_length_eq_zero hm
      have HT : txt dec (.mk 2 0 nm 0 []) = nm := by simp [txt]
      rw [HT] at hlen ⊢
      exact write_nam N hN B b nm p c l w hBl hBw hlen
    · obtain ⟨t, rfl⟩ : ∃ t, ts = [t] := by
        match ts, hm with
        | [t], _ => exact ⟨t, rfl⟩
      obtain ⟨⟨b0, off, q, cc, rfl, hb0, hcs, hA1⟩, _⟩ := hA.2
      have hft : t.fe = 0 := by simpa using fes_get hfes 0 (by simp)
      have hsz : t.size ≤ n := by simp only [Ex.size, Ex.sizes] at he; omega
      have hcs' : cells w b0 off t q cc := by simpa using hcs
      have HT : txt dec (.mk 3 o [] 0 [t]) = (if o = 1 then [45] else [33]) ++ brk 6 (prec t) (txt dec t) := by simp [txt, txts]
      rw [HT] at hlen ⊢
      rcases ho with rfl | rfl
      · exact write_un1 N hN B b (fun lim => brk lim (prec t) (txt dec t)) _ _ _ _ _ _ _ b0 off c l w hBl hBw (AR t q cc hsz hft hnum.2.1 hA1) (keepC_of hb0 hcs') hlen
      · exact write_un2 N hN B b (fun lim => brk lim (prec t) (txt dec t)) _ _ _ _ _ _ _ b0 off c l w hBl hBw (AR t q cc hsz hft hnum.2.1 hA1) (keepC_of hb0 hcs') hlen
    · obtain ⟨t, u, rfl⟩ : ∃ t u, ts = [t, u] := by
        match ts, hm with
        | [t, u], _ => exact ⟨t, u, rfl⟩
      obtain ⟨⟨b0, off, q, cc, rfl, hb0, hcs, hA1⟩, ⟨b0', off', q', cc', he2, hb0', hcs', hA2⟩, _⟩ := hA.2
      cases he2
      have hft : t.fe = 0 := by simpa using fes_get hfes 0 (by simp)
      have hfu : u.fe = 0 := by simpa using fes_get hfes 1 (by simp)
      have hsz : t.size ≤ n := by simp only [Ex.size, Ex.sizes] at he; omega
      have hsz2 : u.size ≤ n := by simp only [Ex.size, Ex.sizes] at he; omega
      have hcs1 : cells w b0 off t q cc := by simpa using hcs
      have hcs2 : cells w b0 (off + 5) u q' cc' := by simpa using hcs'
      have HT : txt dec (.mk 4 o [] 0 [t, u]) = brk (if (opOf o).prec = 3 then 4 else (opOf o).prec) (prec t) (txt dec t) ++ [32] ++ (opOf o).sign ++ [32] ++ brk ((opOf o).prec + 1) (prec u) (txt dec u) := by simp [txt, txts]
      rw [HT] at hlen ⊢
      have hk : knownB o = true := by unfold knownB; simp; omega
      exact write_bin N hN B b (fun lim => brk lim (prec t) (txt dec t)) (fun lim => brk lim (prec u) (txt dec u)) o hk _ _ _ _ _ _ _ _ _ _ _ _ _ _ b0 off c l w hBl hBw (AR t q cc hsz hft hnum.2.1 hA1) (keepC_of hb0 hcs1) (AR u q' cc' hsz2 hfu hnum.2.2.1 hA2) (keepC_of hb0 hcs2) _ rfl hlen

/-- Print -/
def prR (dec : Int → List UInt8) (e : Ex) : List UInt8 × Int := if e.chk ≠ 0 then ([], e.chk) else (txt dec e, 0)
set_option maxHeartbeats 2000000 in
set_option maxRecDepth 100000 in
theorem Print_any (ok : Int → Prop) (dec : Int → List UInt8) (KW : World → Prop) (HI : ∀ v W, ok v → KW W → Calls Tryz.prog 84 #[.int .i64 v] W fun r w' => r = .returned (sV (dec v)) ∧ Ext W w') (e : Ex) (hok : e.chk = 0 → nums ok e ∧ (txt dec e).length ≤ 1000000000) (p : Option Addr) (c : Nat) (w : World) (hKB : ∀ B, w.heap.size ≤ B → ∀ W W', Below B W W' → KW W → KW W') (hKw : KW w) (hA : Ex.At w p e) :
    Gives Tryz.prog 27 #[e.val p c] w (.tuple #[sV (prR dec e).1, .int .i64 (prR dec e).2]) := by
  have C1 := Lib.hid (fun W (h : Ext w W) => show Gives _ _ #[.agg #[.int .i64 e.kind, .int .i64 e.op, sV e.name, .int .i64 e.value, .slice p e.args.length c]] _ _ from Check_any e p c W (hA.below h))
  have C2 := Lib.hid (fun (h0 : e.chk = 0) W (h : Ext w W) => show Calls _ _ #[_, .agg #[.int .i64 e.kind, .int .i64 e.op, sV e.name, .int .i64 e.value, .slice p e.args.length c]] _ _ from
    write_any ok dec KW HI 1000000000 (Nat.le_refl _) W.heap.size W.heap.size (hKB _ h.size) e.size e (Nat.le_refl _) (chk_zero h0).2.2 (hok h0).1 p c [] (W.alloc (.cells #[.pointer none, .slice none 0 0] 70)) (hKB _ (Nat.le_refl _) _ _ (h.below.trans ((Below.refl _ W).alloc h.size _)) hKw) ((hA.below h).toB.ext ((Below.refl _ W).alloc (Nat.le_refl _) _)) (Lib.IsBuilderF.of (Lib.fresh_isBuilder _ _ W)) (by simp) (by simpa using (hok h0).2))
  have hv : e.val p c = .agg #[.int .i64 e.kind, .int .i64 e.op, sV e.name, .int .i64 e.value, .slice p e.args.length c] := rfl
  rw [hv]
  clear hv hA hok HI hKB hKw
  unfold prR
  generalize txt dec e = tt at *
  generalize e.chk = ce at *
  generalize e.kind = k1 at *
  generalize e.op = o1 at *
  generalize e.name = n1 at *
  generalize e.value = v1 at *
  generalize e.args.length = l1 at *
  have HE0 := Lib.hid (show Ext (w.alloc (.cells #[.int .i64 k1, .int .i64 o1, sV n1, .int .i64 v1, .slice p l1 c] tEx)) (w.alloc (.cells #[.int .i64 k1, .int .i64 o1, sV n1, .int .i64 v1, .slice p l1 c] tEx)) from Below.refl _ _)
  unfold Gives
  by_cases h0 : ce = 0
  · subst h0
    have D2 := Lib.hid (C2.out rfl)
    rw [if_neg (by simp)]
    clear C2
    go_enter Tryz.func27, Tryz.ntmps27
    obtain ⟨b0, b1, b2, b3, b4, hW⟩ := HE0.out.box
    go_wp2_with fail
    refine (C1.out _ hW).mono ?_
    intro w1 hB
    have HE1 := Lib.hid (Ext.trans HE0.out hB)
    clear hB b0 b1 b2 b3 b4 hW
    obtain ⟨b0, b1, b2, b3, b4, hW⟩ := HE1.out.box
    have hlt : w.heap.size < w1.heap.size := by have := HE1.out.size; simp at this; omega
    have hs1 := hW.size
    go_wp2_with fail
    refine (D2.out _ hW).mono ?_
    rintro _ w2 ⟨rfl, hbl, hk⟩
    have HB2 := Lib.hid hbl
    have HK2 := Lib.hid hk
    clear hbl hk b0 b1 b2 b3 b4 hlt
    go_wp2_with fail
    refine (Any.Builder_String_any_k bl169 bextra w1.heap.size w1.heap.size tt w2 HB2.out (Nat.le_trans (by simp) HK2.out.1.size)).mono ?_
    rintro _ w3 ⟨rfl, hbl, hB3, hk3⟩
    have HR := Lib.hid (show Ext w w3 from Ext.trans hW (((Below.refl _ w1).alloc (Nat.le_refl _) _).trans (HK2.out.1.trans hB3)))
    clear hbl hB3 hk3
    go_wp2
    go_ret2
    exact ⟨rfl, HR.out⟩
  · have h0' : (ce == 0) = false := by simpa using h0
    have h1' : (ce != 0) = true := by simpa using h0
    rw [if_pos h0]
    clear C2 h0
    go_enter Tryz.func27, Tryz.ntmps27
    obtain ⟨b0, b1, b2, b3, b4, hW⟩ := HE0.out.box
    go_wp2_with fail
    refine (C1.out _ hW).mono ?_
    intro w1 hB
    have HE1 := Lib.hid (Ext.trans HE0.out hB)
    clear hB b0 b1 b2 b3 b4 hW
    obtain ⟨b0, b1, b2, b3, b4, hW⟩ := HE1.out.box
    clear b0 b1 b2 b3 b4
    go_wp2
    go_ret2
    exact ⟨rfl, hW⟩

end Go.Proofs.YtmokejjndkibhaaGreatDoor

namespace Go.Proofs.YtmokejjndkibhaaGreatDoor
open Go.RowKit
set_option linter.unusedVariables false
set_option linter.unusedSimpArgs false
open Ex

theorem same_upG {w : World} {args : Array Value} {v : Value} {U : Up w} (C : ∀ W, Ext w W → Gives Tryz.prog 59 args W v) : Calls Tryz.prog 59 args U.W fun e w'' => e = .returned v ∧ ∃ U' : Up w, w'' = U'.W := Up.call (C _ U.ext)

set_option maxRecDepth 100000 in
set_option maxHeartbeats 4000000 in
theorem refSame_any : ∀ (n : Nat) (a : Ex), a.size ≤ n → ∀ (b : Ex) (p p' : Option Addr) (c c' : Nat) (w : World), Ex.At w p a → Ex.At w p' b →
    Gives Tryz.prog 59 #[a.val p c, b.val p' c'] w (.bool (eqE a b)) := by
  intro n
  induction n with
  | zero => intro e he; have := e.size_pos; omega
  | succ n ih =>
    intro a ha b p p' c c' w hA hA'
    have hl1 : a.args.length ≤ 2199023255488 := hA.fit.2.2.2.2
    have hl2 : b.args.length ≤ 2199023255488 := hA'.fit.2.2.2.2
    have hv : a.val p c = .agg #[.int .i64 a.kind, .int .i64 a.op, sV a.name, .int .i64 a.value, .slice p a.args.length c] := rfl
    have hv' : b.val p' c' = .agg #[.int .i64 b.kind, .int .i64 b.op, sV b.name, .int .i64 b.value, .slice p' b.args.length c'] := rfl
    rw [hv, hv']
    have IH := Lib.hid (fun t (ht : t ∈ a.args) => ih t (by obtain ⟨j, hj, rfl⟩ := List.getElem_of_mem ht; have h1 := size_get a.args j hj; have h2 := size_args a; omega))
    have HR := Lib.hid (show Ex.AtL w p 0 a.args from hA.row)
    have HR' := Lib.hid (show Ex.AtL w p' 0 b.args from hA'.row)
    have HD := Lib.hid (eqE_def a b)
    have HLN := Lib.hid (fun h => eqL_len a.args b.args h)
    have HRL := Lib.hid (show eqL a.args b.args = eqL a.args b.args from rfl)
    clear ih ha hv hv' hA hA'
    generalize eqE a b = r at *
    obtain ⟨rl, hrl⟩ : ∃ rl, rl = eqL a.args b.args := ⟨_, rfl⟩
    rw [← hrl] at HD
    replace HRL := Lib.hid hrl
    obtain ⟨l1, hl1'⟩ : ∃ l1, a.args.length = l1 := ⟨_, rfl⟩
    obtain ⟨l2, hl2'⟩ : ∃ l2, b.args.length = l2 := ⟨_, rfl⟩
    rw [hl1'] at hl1 ⊢
    rw [hl2'] at hl2 ⊢
    have HTS := Lib.hid (And.intro hl1' hl2')
    clear hrl hl1' hl2'
    generalize a.kind = k1 at *
    generalize a.op = o1 at *
    generalize a.name = n1 at *
    generalize a.value = v1 at *
    generalize b.kind = k2 at *
    generalize b.op = o2 at *
    generalize b.name = n2 at *
    generalize b.value = v2 at *
    obtain ⟨hb0, hb1, hE0⟩ := two_boxes w (.int .i64 k1) (.int .i64 o1) (sV n1) (.int .i64 v1) (.slice p l1 c) (.int .i64 k2) (.int .i64 o2) (sV n2) (.int .i64 v2) (.slice p' l2 c') tEx
    have HE0 := Lib.hid hE0
    have HB0 := Lib.hid hb0
    have HB1 := Lib.hid hb1
    clear hb0 hb1 hE0
    unfold Gives
    by_cases hk : k1 = k2
    · subst hk
      by_cases ho : o1 = o2
      · subst ho
        by_cases hn : n1 = n2
        · subst hn
          by_cases hx : v1 = v2
          · subst hx
            replace HD := Lib.hid (show r = rl by rw [HD.out]; simp)
            by_cases hll : l1 = l2
            · subst hll
              go_enter Tryz.func59, Tryz.ntmps59
              go_wp2
              go_loopw [5] (fun i wr => ∃ j : Nat, j ≤ l1 ∧ i = .int .i64 (j : Int) ∧ rl = eqL (a.args.drop j) (b.args.drop j) ∧ Ext ((w.alloc (.cells #[.int .i64 k1, .int .i64 o1, sV n1, .int .i64 v1, .slice p l1 c] tEx)).alloc (.cells #[.int .i64 k1, .int .i64 o1, sV n1, .int .i64 v1, .slice p' l1 c'] tEx)) wr) (fun i _ => l1 - (intOf i).toNat)
              case atStart => exact ⟨0, Nat.zero_le _, rfl, by rw [HRL.out]; simp, Below.refl _ _⟩
              case round =>
                obtain ⟨j, hj, rfl, hq, hE⟩ := hrel
                have HQ := Lib.hid hq
                clear hq
                have hbe := (hE.below.block _ (lt_of_block HB0.out)).trans HB0.out
                have hbr := (hE.below.block _ (lt_of_block HB1.out)).trans HB1.out
                obtain ⟨d0, d1, d2, d3, d4, f0⟩ := box5 hbe
                obtain ⟨y0, y1, y2, y3, y4, f1⟩ := box5 hbr
                have hEw : Ext w wr := Ext.trans HE0.out hE
                by_cases hlt : j < l1
                · have hjt : j < a.args.length := by rw [HTS.out.1]; exact hlt
                  have hjt' : j < b.args.length := by rw [HTS.out.2]; exact hlt
                  obtain ⟨b1, off, q2, dd2, rfl, hcs, hA1⟩ := HR.out.get j hjt
                  obtain ⟨b1', off', q3, dd3, rfl, hcs', hA1'⟩ := HR'.out.get j hjt'
                  rw [Nat.zero_add] at hcs hcs'
                  obtain ⟨c0, c1, c2, c3, c4⟩ := hcs.below hEw
                  obtain ⟨x0, x1, x2, x3, x4⟩ := hcs'.below hEw
                  have D := Lib.hid (fun W (h : Ext wr W) => show Gives _ _ #[.agg #[.int .i64 (a.args[j]).kind, .int .i64 (a.args[j]).op, sV (a.args[j]).name, .int .i64 (a.args[j]).value, .slice q2 (a.args[j]).args.length dd2], .agg #[.int .i64 (b.args[j]).kind, .int .i64 (b.args[j]).op, sV (b.args[j]).name, .int .i64 (b.args[j]).value, .slice q3 (b.args[j]).args.length dd3]] _ _ from IH.out a.args[j] (List.getElem_mem hjt) b.args[j] q2 q3 dd2 dd3 W (hA1.below (Ext.trans hEw h)) (hA1'.below (Ext.trans hEw h)))
                  have HS := Lib.hid (eqL_drop a.args b.args j hjt hjt')
                  have HE := Lib.hid hE
                  clear hcs hcs' hA1 hA1' hE hEw hbe hbr
                  generalize (a.args[j]).kind = k2 at *
                  generalize (a.args[j]).op = o2 at *
                  generalize (a.args[j]).name = n2 at *
                  generalize (a.args[j]).value = v2' at *
                  generalize (a.args[j]).args.length = l2 at *
                  generalize (b.args[j]).kind = k3 at *
                  generalize (b.args[j]).op = o3 at *
                  generalize (b.args[j]).name = n3 at *
                  generalize (b.args[j]).value = v3' at *
                  generalize (b.args[j]).args.length = l3 at *
                  generalize eqE a.args[j] b.args[j] = rr at *
                  have u0 := fun U : Up wr => Up.cell d4 U
                  have u1 := fun U : Up wr => Up.cell y4 U
                  have s0 := fun U : Up wr => Up.cell c0 U
                  have s1 := fun U : Up wr => Up.cell c1 U
                  have s2 := fun U : Up wr => Up.cell c2 U
                  have s3 := fun U : Up wr => Up.cell c3 U
                  have s4 := fun U : Up wr => Up.cell c4 U
                  have t0 := fun U : Up wr => Up.cell x0 U
                  have t1 := fun U : Up wr => Up.cell x1 U
                  have t2 := fun U : Up wr => Up.cell x2 U
                  have t3 := fun U : Up wr => Up.cell x3 U
                  have t4 := fun U : Up wr => Up.cell x4 U
                  cases rr with
                  | true =>
                    go_wp2
                    refine wp_region_up (by kernel_rfl) (by kernel_rfl) ?_
                    repeat (go_big_quiet_step ((go_at_call 59; exact same_upG D.out)))
                    refine wpQuiet_nil ?_
                    rintro w4 ⟨U, rfl⟩
                    have hE4 := Lib.hid (Ext.trans HE.out U.ext)
                    generalize U.W = w4 at *
                    clear u0 u1 s0 s1 s2 s3 s4 t0 t1 t2 t3 t4
                    have HN := Lib.hid (show rl = eqL (a.args.drop (j + 1)) (b.args.drop (j + 1)) by rw [HQ.out, HS.out]; simp)
                    go_wp2
                    go_roundw
                    case rel => exact ⟨j + 1, by omega, by go_num, HN.out, hE4.out⟩
                    case measure => simp [intOf]; omega
                  | false =>
                    go_wp2
                    refine wp_region_up (by kernel_rfl) (by kernel_rfl) ?_
                    repeat (go_big_quiet_step ((go_at_call 59; exact same_upG D.out)))
                    refine wpQuiet_nil ?_
                    rintro w4 ⟨U, rfl⟩
                    have hE4 := Lib.hid (Ext.trans HE.out U.ext)
                    generalize U.W = w4 at *
                    clear u0 u1 s0 s1 s2 s3 s4 t0 t1 t2 t3 t4
                    have HN := Lib.hid (show r = false by rw [HD.out, HQ.out, HS.out]; simp)
                    go_wp2
                    go_ret
                    exact ⟨by rw [HN.out]; rfl, Ext.trans HE0.out hE4.out⟩
                · have HE := Lib.hid hEw
                  have HN := Lib.hid (show r = true by rw [HD.out, HQ.out, eqL_end _ _ _ (by rw [HTS.out.1]; exact hlt) (by rw [HTS.out.1, HTS.out.2])])
                  clear hE hEw hbe hbr
                  go_wp2
                  go_ret
                  exact ⟨by rw [HN.out]; rfl, HE.out⟩
            · have g1 : ((l1 : Int) == (l2 : Int)) = false := by rw [beq_eq_false_iff_ne]; omega
              have g2 : ((l1 : Int) != (l2 : Int)) = true := by rw [bne_iff_ne]; omega
              replace HD := Lib.hid (show r = false by rw [HD.out, HRL.out]; exact HLN.out (by rw [HTS.out.1, HTS.out.2]; exact hll))
              clear hll
              have HN := Lib.hid (show r = false by rw [HD.out])
              clear IH HR HR'
              go_enter Tryz.func59, Tryz.ntmps59
              go_wp2
              go_ret
              exact ⟨by rw [HN.out]; rfl, HE0.out⟩
          · have g1 : (v1 == v2) = false := by simpa using hx
            have g2 : (v1 != v2) = true := by simpa using hx
            have HN := Lib.hid (show r = false by rw [HD.out]; simp [g1])
            clear IH HR HR'
            go_enter Tryz.func59, Tryz.ntmps59
            go_wp2
            go_ret
            exact ⟨by rw [HN.out]; rfl, HE0.out⟩
        · have g1 : (n1 == n2) = false := by simpa using hn
          have g2 : (n1 != n2) = true := by simpa using hn
          have HN := Lib.hid (show r = false by rw [HD.out]; simp [g1])
          clear IH HR HR'
          go_enter Tryz.func59, Tryz.ntmps59
          go_wp2
          go_ret
          exact ⟨by rw [HN.out]; rfl, HE0.out⟩
      · have g1 : (o1 == o2) = false := by simpa using ho
        have g2 : (o1 != o2) = true := by simpa using ho
        have HN := Lib.hid (show r = false by rw [HD.out]; simp [g1])
        clear IH HR HR'
        go_enter Tryz.func59, Tryz.ntmps59
        go_wp2
        go_ret
        exact ⟨by rw [HN.out]; rfl, HE0.out⟩
    · have g1 : (k1 == k2) = false := by simpa using hk
      have g2 : (k1 != k2) = true := by simpa using hk
      have HN := Lib.hid (show r = false by rw [HD.out]; simp [g1])
      clear IH HR HR'
      go_enter Tryz.func59, Tryz.ntmps59
      go_wp2
      go_ret
      exact ⟨by rw [HN.out]; rfl, HE0.out⟩

end Go.Proofs.YtmokejjndkibhaaGreatDoor

namespace Go.Proofs.YtmokejjndkibhaaGreatDoor
open Go.RowKit
set_option linter.unusedVariables false
set_option linter.unusedSimpArgs false

end Go.Proofs.YtmokejjndkibhaaGreatDoor

namespace Go.Proofs.YtmokejjndkibhaaGreatDoor
open Go.RowKit
set_option linter.unusedVariables false
set_option linter.unusedSimpArgs false
open Ex

/-- the numeral of a number -/
def decI (v : Int) : List UInt8 := Lib.decDigits v.toNat
end Go.Proofs.YtmokejjndkibhaaGreatDoor

