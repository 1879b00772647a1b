/- A region that draws its order: the head quiet (one walk of the lexical order serves all), the tail, each of whose operations waits for all before it, walked as a list. -/
import Derived.Test.YtfkjokbhnblndaaGreatDoorRt
namespace Go.Proofs.YtfkjokbhnblndaaGreatDoor
open Go.RowKit
set_option linter.unusedVariables false
set_option linter.unusedSimpArgs false

/-- the guards of the head lie in the head -/
def guardB (l : List Oper) : Bool := l.all fun o => match o.guard with | none => true | some (j, _) => decide (j < l.length)

theorem downC_set {l : List Oper} {listed : Array Bool} (h : downC l listed) (hs : listed.size = l.length) {i : Nat} (hi : i ∈ Region.ready .any l.toArray listed) : downC l (listed.setIfInBounds i true) := by
  obtain ⟨g1, o, ho, hw⟩ := mem_ready.1 hi
  have ho' : l[i]? = some o := by simpa using ho
  intro j oj hj hlj e he hb
  by_cases hji : j = i
  · subst hji
    rw [ho'] at hj
    obtain rfl := Option.some.inj hj
    exact getD_set_true (hw e (by simpa using he) hb)
  · rw [getD_set_ne false (Ne.symm hji)] at hlj
    exact getD_set_true (h j oj hj hlj e he hb)

theorem head_any {P : Program} {C : World → Prop} {Qa : Act → Prop} {Q : Exit → Act → World → Prop} {l1 l2 : List Oper} (hback : backB (l1 ++ l2) = true) (ht : tailB (l1 ++ l2) l1.length = true) (hg : guardB l1 = true)
    (hQ : ∀ a W, C W → Qa a → wpList P (l1 ++ l2).toArray Q l2 a W) :
    ∀ (fuel : Nat) (b : List Bool) (a : Act) (W : World), C W → b.length = l1.length → b.count false = fuel → downC (l1 ++ l2) (b ++ List.replicate l2.length false).toArray → wpAnyQ P .any l1.toArray C Qa fuel b.toArray a →
      wpAny P .any (l1 ++ l2).toArray Q (fuel + l2.length) (b ++ List.replicate l2.length false).toArray a W := by
  intro fuel
  induction fuel with
  | zero =>
    intro b a W hC hb hc hd h
    have hall : ∀ j, j < l1.length → b[j]? = some true := fun j hj => by
      have hj' : j < b.length := by omega
      rw [List.getElem?_eq_getElem hj']
      cases hbj : b[j] with
      | true => rfl
      | false =>
        have := List.count_pos_iff.2 (hbj ▸ List.getElem_mem hj')
        omega
    have := tail_any (P := P) (Q := Q) hback ht l2 l1.length (b ++ List.replicate l2.length false).toArray a W (by simp) (Nat.le_refl _) (by simp) (by simp [hb]) (fun j hj => ?_) (fun j hj => ?_) (hQ a W hC h.2)
    · rw [show (l1 ++ l2).length - l1.length = 0 + l2.length by simp] at this
      exact this
    · rw [Array.getD_eq_getD_getElem?]
      simp only [List.getElem?_toArray]
      rw [List.getElem?_append_left (by omega), hall j hj]; rfl
    · rw [Array.getD_eq_getD_getElem?]
      simp only [List.getElem?_toArray]
      rw [List.getElem?_append_right (by omega), List.getElem?_replicate]
      split <;> rfl
  | succ fuel ih =>
    intro b a W hC hb hc hd h
    have hsz : (b ++ List.replicate l2.length false).toArray.size = (l1 ++ l2).length := by simp [hb]
    have hgetl : ∀ j d, j < l1.length → (b ++ List.replicate l2.length false).toArray.getD j d = b.toArray.getD j d := fun j d hj => by
      rw [Array.getD_eq_getD_getElem?, Array.getD_eq_getD_getElem?]
      simp only [List.getElem?_toArray]
      rw [List.getElem?_append_left (by omega)]
    -- the least that is not listed
    obtain ⟨k, hk, hkf, hkl⟩ : ∃ k : Nat, k < l1.length ∧ b[k]? = some false ∧ ∀ j : Nat, j < k → b[j]? = some true := by
      have hex : ∃ k : Nat, b[k]? = some false := by
        have hm : false ∈ b := List.count_pos_iff.1 (by omega)
        exact List.getElem?_of_mem hm
      obtain ⟨k, h1, h2⟩ : ∃ k : Nat, b[k]? = some false ∧ ∀ j : Nat, j < k → ¬ b[j]? = some false := by
        obtain ⟨k, hk⟩ := hex
        induction k using Nat.strongRecOn with
        | _ k ihk =>
          by_cases hlt : ∃ j : Nat, j < k ∧ b[j]? = some false
          · obtain ⟨j, hj, hjf⟩ := hlt
            exact ihk j hj hjf
          · exact ⟨k, hk, fun j hj e => hlt ⟨j, hj, e⟩⟩
      have hkb : k < b.length := (List.getElem?_eq_some_iff.1 h1).1
      refine ⟨k, by omega, h1, fun j hj => ?_⟩
      have hjb : j < b.length := by omega
      have := h2 j hj
      rw [List.getElem?_eq_getElem hjb] at this ⊢
      cases hbj : b[j] with
      | true => rfl
      | false => rw [hbj] at this; exact absurd rfl this
    have hkfull : (b ++ List.replicate l2.length false).toArray.getD k false = false := by
      rw [hgetl k false hk, Array.getD_eq_getD_getElem?]; simp [hkf]
    have hkfull' : (b ++ List.replicate l2.length false).toArray.getD k true = false := by
      rw [hgetl k true hk, Array.getD_eq_getD_getElem?]; simp [hkf]
    have hkr : k ∈ Region.ready .any (l1 ++ l2).toArray (b ++ List.replicate l2.length false).toArray := by
      rw [mem_ready]
      have hkl2 : k < (l1 ++ l2).length := by simp; omega
      refine ⟨hkfull', (l1 ++ l2)[k], by simp, fun e he hbd => ?_⟩
      have hlt := backB_spec hback (List.getElem?_eq_getElem hkl2) he hbd
      rw [hgetl e.on false (by omega), Array.getD_eq_getD_getElem?]
      simp [hkl e.on hlt]
    rw [show fuel + 1 + l2.length = (fuel + l2.length) + 1 by omega]
    refine ⟨fun h0 => absurd hkr (by rw [h0]; simp), fun i hi => ?_⟩
    obtain ⟨g1, o, ho, hw⟩ := mem_ready.1 hi
    have ho' : (l1 ++ l2)[i]? = some o := by simpa using ho
    have hil : i < (l1 ++ l2).length := (List.getElem?_eq_some_iff.1 ho').1
    have hin : i < l1.length := by
      rcases Nat.lt_or_ge i l1.length with h1 | h1
      · exact h1
      · exfalso
        have ha := tailB_spec ht hil h1 (show k < i by omega)
        revert ha
        cases hL : (l1 ++ l2).length with
        | zero => omega
        | succ m =>
          intro ha
          unfold ancB at ha
          rw [ho'] at ha
          obtain ⟨e, he, hh⟩ := List.any_eq_true.1 ha
          simp only [Bool.and_eq_true, Bool.or_eq_true, decide_eq_true_eq] at hh
          have h3 := hw e (by simpa using he) hh.1
          rcases hh.2 with h5 | h5
          · rw [h5, hkfull] at h3; cases h3
          · have := hd.anc _ _ _ h3 h5
            rw [hkfull] at this; cases this
    have hol : l1[i]? = some o := by rw [List.getElem?_append_left hin] at ho'; exact ho'
    have hir : i ∈ Region.ready .any l1.toArray b.toArray := by
      rw [mem_ready]
      refine ⟨by rw [← hgetl i true hin]; exact g1, o, by simpa using hol, fun e he hbd => ?_⟩
      have hlt := backB_spec hback ho' he hbd
      rw [← hgetl e.on false (by omega)]
      exact hw e he hbd
    have hq := h.2 i hir
    have hwant : Region.wanted o (yielded (l1 ++ l2).toArray a.tmps) = Region.wanted o (yielded l1.toArray a.tmps) := by
      unfold Region.wanted
      cases hgd : o.guard with
      | none => rfl
      | some p =>
        obtain ⟨j, want⟩ := p
        have hj := List.all_eq_true.1 hg o (List.mem_of_getElem? hol)
        simp only [hgd, decide_eq_true_eq] at hj
        have : (l1 ++ l2)[j]? = l1[j]? := List.getElem?_append_left hj
        simp only [yielded, List.getElem?_toArray, this]
    have hbi : b[i]? = some false := by
      have hib : i < b.length := by omega
      rw [hgetl i true hin, Array.getD_eq_getD_getElem?] at g1
      simp only [List.getElem?_toArray, List.getElem?_eq_getElem hib, Option.getD_some] at g1
      rw [List.getElem?_eq_getElem hib, g1]
    have hcnt : (b.set i true).count false = fuel := by
      have hib : i < b.length := by omega
      have hb2 : b[i] = false := by rw [List.getElem?_eq_getElem hib] at hbi; exact Option.some.inj hbi
      rw [List.count_set hib, hb2, hc]
      simp
    have hset : ((b ++ List.replicate l2.length false).toArray.setIfInBounds i true) = (b.set i true ++ List.replicate l2.length false).toArray := by
      rw [List.setIfInBounds_toArray, List.set_append_left _ _ (by omega)]
    have hset1 : b.toArray.setIfInBounds i true = (b.set i true).toArray := by rw [List.setIfInBounds_toArray]
    have hd' := downC_set hd hsz hi
    rw [hset] at hd' ⊢
    rw [hset1] at hq
    unfold qOp at hq
    unfold wpOp
    rw [show l1.toArray[i]? = some o by simpa using hol] at hq
    rw [ho]
    dsimp only at hq ⊢
    rw [hwant]
    split
    · rename_i hwt
      rw [if_pos hwt] at hq
      exact .inl (Oper.wp_of_quiet hC (fun a' w' hw' hK => ih _ a' w' hw' (by simpa using hb) hcnt hd' hK) hq)
    · rename_i hwt
      rw [if_neg hwt] at hq
      exact ih _ _ _ hC (by simpa using hb) hcnt hd' hq

/-- the head quiet in the worlds that have all that w had; the tail a list -/
theorem wp_region_uptail {P : Program} {id : Nat} {Q : Exit → Act → World → Prop} {a : Act} {w : World} {l1 l2 : List Oper} (hm : P.follows .mixedOrders = true) (hB : Region.lexB .any l1.toArray = true)
    (hback : backB (l1 ++ l2) = true) (ht : tailB (l1 ++ l2) l1.length = true) (hg : guardB l1 = true)
    (h : wpQuiet P l1.toArray (fun W => ∃ U : Up w, W = U.W) (fun a' => ∀ w', (∃ U : Up w, w' = U.W) → wpList P (l1 ++ l2).toArray Q l2 a' w') l1 a) : (Code.region id (l1 ++ l2).toArray true).wp P Q a w := by
  refine wp_region_any hm ?_
  have hC : (fun W => ∃ U : Up w, W = U.W) { w with drawn := w.drawn + 1 } := ⟨⟨{ w with drawn := w.drawn + 1 }, ⟨rfl, rfl, rfl, Nat.le_refl _, fun _ _ => rfl⟩⟩, rfl⟩
  simp only [Region.lexB, Bool.and_eq_true] at hB
  have hq := wpAnyQ_lex (P := P) (C := fun W => ∃ U : Up w, W = U.W) (md := .any) hB.1 l1 0 (Array.replicate l1.toArray.size false) a (by simp) (by simpa using hB.2) h
  have := head_any (P := P) (Q := Q) (C := fun W => ∃ U : Up w, W = U.W) (Qa := fun a' => ∀ w', (∃ U : Up w, w' = U.W) → wpList P (l1 ++ l2).toArray Q l2 a' w') hback ht hg (fun a' W hW hK => hK W hW) l1.length (List.replicate l1.length false) a { w with drawn := w.drawn + 1 } hC (by simp) (by simp) (fun j oj hj hl => ?_) (by simpa using hq)
  · have e1 : Array.replicate (l1 ++ l2).toArray.size false = (List.replicate l1.length false ++ List.replicate l2.length false).toArray := by
      simp [List.replicate_append_replicate]
    rw [e1]
    simpa using this
  · exfalso
    rw [Array.getD_eq_getD_getElem?] at hl
    simp only [List.replicate_append_replicate, List.getElem?_toArray, List.getElem?_replicate] at hl
    split at hl <;> cases hl
end Go.Proofs.YtfkjokbhnblndaaGreatDoor
