/- Lemmas and walks for the statements of this seat, part 6, merged from smaller texts: A region that draws its order and ends with a chain: the head by predicates (Rg), the tail walked as a list.; Appending an expression to a row of the call's own.; fold of the reference.; Fold, both.; replaced of the reference.; Substitute's function. -/
import Derived.Laws.Append
import Derived.Test.YtgkalcboklhdgaaDoorPart2
import Derived.Test.YtgkalcboklhdgaaDoorPart5
import Derived.Test.YtgkalcboklhdgaaDoorPart4

namespace Go.Proofs.YtgkalcboklhdgaaDoor
open Go.RowKit
set_option linter.unusedVariables false

/-- from n on each operation waits for all before it -/
def tailB (l : List Oper) (n : Nat) : Bool := (List.range l.length).all fun j => decide (j < n) || (List.range j).all fun i => ancB l l.length j i
theorem tailB_spec {l : List Oper} {n : Nat} (h : tailB l n = true) {i j : Nat} (hj : j < l.length) (hn : n ≤ j) (hi : i < j) : ancB l l.length j i = true := by
  have h1 := List.all_eq_true.1 h j (List.mem_range.2 hj)
  simp only [Bool.or_eq_true, decide_eq_true_eq] at h1
  rcases h1 with h1 | h1
  · omega
  · exact List.all_eq_true.1 h1 i (List.mem_range.2 hi)

theorem getD_of_lt {listed : Array Bool} {i : Nat} (hi : i < listed.size) (d d' : Bool) : listed.getD i d = listed.getD i d' := by
  simp [Array.getD_eq_getD_getElem?, Array.getElem?_eq_getElem hi]

/-- the tail -/
theorem tail_any {P : Program} {Q : Exit → Act → World → Prop} {l : List Oper} {n : Nat} (hback : backB l = true) (ht : tailB l n = true) :
    ∀ (rest : List Oper) (k : Nat) (listed : Array Bool) (a : Act) (W : World), rest = l.drop k → n ≤ k → k ≤ l.length → listed.size = l.length → (∀ j, j < k → listed.getD j false = true) → (∀ j, k ≤ j → listed.getD j false = false) →
      wpList P l.toArray Q rest a W → wpAny P .any l.toArray Q (l.length - k) listed a W := by
  intro rest
  induction rest with
  | nil =>
    intro k listed a W hr hn hk hs h1 h2 hw
    have hkl : l.length = k := by
      have := congrArg List.length hr
      simp at this; omega
    have h0 : Region.ready .any l.toArray listed = [] := by
      apply List.eq_nil_iff_forall_not_mem.2
      intro i hi
      obtain ⟨g1, o, ho, _⟩ := mem_ready.1 hi
      have hi' : i < l.length := by have := (Array.getElem?_eq_some_iff.1 ho).1; simpa using this
      rw [getD_of_lt (by omega) true false, h1 i (by omega)] at g1
      cases g1
    rw [show l.length - k = 0 by omega]
    exact ⟨h0, hw⟩
  | cons o rest ih =>
    intro k listed a W hr hn hk hs h1 h2 hw
    have hkl : k < l.length := by
      have := congrArg List.length hr
      simp at this; omega
    have hlk : l[k]? = some o := by
      have := congrArg (·[0]?) hr
      simp at this
      simpa using this.symm
    have hrest : rest = l.drop (k + 1) := by
      have := congrArg List.tail hr
      simpa using this
    have hkr : k ∈ Region.ready .any l.toArray listed := by
      rw [mem_ready]
      refine ⟨by rw [getD_of_lt (by omega) true false]; exact h2 k (Nat.le_refl _), o, by simpa using hlk, fun e he hb => ?_⟩
      exact h1 e.on (backB_spec hback hlk he hb)
    rw [show l.length - k = (l.length - (k + 1)) + 1 by omega]
    refine ⟨fun h0 => absurd hkr (by rw [h0]; simp), fun i hi => ?_⟩
    obtain ⟨g1, oi, hoi, hwait⟩ := mem_ready.1 hi
    have hoi' : l[i]? = some oi := by simpa using hoi
    have hil : i < l.length := (List.getElem?_eq_some_iff.1 hoi').1
    have hik : i = k := by
      rw [getD_of_lt (by omega) true false] at g1
      rcases Nat.lt_trichotomy i k with h | h | h
      · rw [h1 i h] at g1; cases g1
      · exact h
      · exfalso
        have ha := tailB_spec ht hil (by omega) h
        revert ha
        cases hL : l.length with
        | zero => omega
        | succ m =>
          intro ha
          unfold ancB at ha
          rw [hoi'] at ha
          obtain ⟨e, he, hh⟩ := List.any_eq_true.1 ha
          simp only [Bool.and_eq_true, Bool.or_eq_true, decide_eq_true_eq] at hh
          have h3 := hwait e (by simpa using he) hh.1
          have h4 : e.on < k := by
            rcases Nat.lt_or_ge e.on k with h5 | h5
            · exact h5
            · rw [h2 e.on h5] at h3; cases h3
          rcases hh.2 with h5 | h5
          · omega
          · have := anc_back hback _ _ _ h5; omega
    subst hik
    have hK : ∀ a' W', wpList P l.toArray Q rest a' W' → wpAny P .any l.toArray Q (l.length - (i + 1)) (listed.setIfInBounds i true) a' W' := by
      intro a' W' hw'
      refine ih (i + 1) _ a' W' hrest (by omega) hkl (by simpa using hs) (fun j hj => ?_) (fun j hj => ?_) hw'
      · by_cases e : j = i
        · subst e; simp [Array.getD_eq_getD_getElem?, hs, hkl]
        · rw [getD_set_ne false (Ne.symm e)]; exact h1 j (by omega)
      · rw [getD_set_ne false (by omega)]; exact h2 j (by omega)
    unfold wpOp
    rw [show l.toArray[i]? = some o by simpa using hlk]
    unfold wpList at hw
    dsimp only
    split
    · rename_i hwant
      rw [if_pos hwant] at hw
      exact hw.imp (Oper.wp_mono hK) id
    · rename_i hwant
      rw [if_neg hwant] at hw
      exact hK _ _ hw

theorem wp_region_tail {P : Program} {id : Nat} {Q : Exit → Act → World → Prop} {a : Act} {w : World} {l1 l2 : List Oper} (hm : P.follows .mixedOrders = true)
    (R : World → World → Prop) (hRr : ∀ W, R W W) (hR0 : ∀ W : World, R W { W with drawn := W.drawn + 1 }) (hRt : ∀ {A B C}, R A B → R B C → R A C)
    (Φ : Nat → (Nat → Value) → World → Prop) (D : Nat → List Nat) (hst : ∀ j s s' W W', Φ j s W → (∀ k ∈ D j, s' k = s k) → R W W' → Φ j s' W')
    (hback : backB (l1 ++ l2) = true) (hun : uniqB (l1 ++ l2) = true) (hreads : readsB (l1 ++ l2) D = true) (N : Nat) (hN : a.tmps.size = N) (hinB : (((l1 ++ l2).filterMap (·.dst)).all fun d => decide (d < N)) = true)
    (htail : tailB (l1 ++ l2) l1.length = true)
    (hstep : ∀ (i : Nat) o, l1[i]? = some o → ∀ a' W, AtG (l1 ++ l2) R Φ a w i o a' W → GoesG P (l1 ++ l2) R Φ i o a' W Q)
    (hend : ∀ (vs : List Value) W, vs.length = l1.length → R w W → (∀ j, j < l1.length → Φ j (fun k => vs.getD k undef) W) → wpList P (l1 ++ l2).toArray Q l2 (putAll l1 vs a) W) :
    (Code.region id (l1 ++ l2).toArray true).wp P Q a w := by
  have hin : ∀ d ∈ (l1 ++ l2).filterMap (·.dst), d < a.tmps.size := fun d hd => by rw [hN]; exact of_decide_eq_true (List.all_eq_true.1 hinB d hd)
  generalize hl : l1 ++ l2 = l at *
  have hl1 : ∀ j, j < l1.length → l1[j]? = l[j]? := fun j hj => by rw [← hl, List.getElem?_append_left hj]
  have hlen : l1.length ≤ l.length := by rw [← hl]; simp
  have hdrop : l2 = l.drop l1.length := by rw [← hl]; simp
  refine wp_region_any hm ?_
  have fin : ∀ (listed : Array Bool) (a' : Act) (W : World), listed.toList.count false = l.length - l1.length → (∀ j, l1.length ≤ j → listed.getD j false = false) → (∀ j, j < l1.length → listed.getD j false = true) → InvG l R Φ a w listed a' W →
      wpAny P .any l.toArray Q (l.length - l1.length) listed a' W := by
    intro listed a' W hc hlo hall hI
    refine tail_any hback htail l2 l1.length listed a' W hdrop (Nat.le_refl _) hlen hI.lsize hall hlo ?_
    have e : a' = putAll l1 (l1.map fun o => match o.dst with | none => undef | some d => a'.tmps.getD d undef) a := by
      refine act_eq (by rw [putAll_size]; exact hI.size) (by rw [putAll_defers]; exact hI.defers) ?_
      intro d hlt
      by_cases hm : d ∈ l1.filterMap (·.dst)
      · obtain ⟨o, ho, hod⟩ := List.mem_filterMap.1 hm
        obtain ⟨j, hj⟩ := List.getElem?_of_mem ho
        have hjl : j < l1.length := (List.getElem?_eq_some_iff.1 hj).1
        rw [putAll_self l1 _ a j o d (by simp) hj hod (fun i p hp e => uniqB_spec hun (by rw [← hl1 i (List.getElem?_eq_some_iff.1 hp).1]; exact hp) (by rw [← hl1 j hjl]; exact hj) e hod) (by rw [← hI.size]; exact hlt)]
        rw [List.getD_eq_getElem?_getD, List.getElem?_map, hj]
        simp [hod]
      · rw [putAll_other l1 _ a d (fun o ho e => hm (List.mem_filterMap.2 ⟨o, ho, e⟩))]
        refine hI.old d (fun j oj hj hd => ?_)
        rcases Nat.lt_or_ge j l1.length with h | h
        · exact absurd (List.mem_filterMap.2 ⟨oj, List.mem_of_getElem? (by rw [hl1 j h]; exact hj), hd⟩) hm
        · exact hlo j h
    rw [e]
    refine hend _ W (by simp) hI.rel (fun j hj => ?_)
    refine hst j _ _ W W (hI.new j (by omega) (hall j hj)) (fun k hk => ?_) (hRr W)
    have hkj : k ≤ j := by
      have h1 := List.all_eq_true.1 (List.all_eq_true.1 hreads j (List.mem_range.2 (by omega))) k hk
      simp only [Bool.or_eq_true, decide_eq_true_eq] at h1
      rcases h1 with h1 | h1
      · omega
      · exact Nat.le_of_lt (anc_back hback _ _ _ h1)
    have hkl : k < l1.length := by omega
    unfold sv
    rw [List.getD_eq_getElem?_getD, List.getElem?_map, hl1 k hkl]
    cases hk : l[k]? with
    | none => rfl
    | some o => cases hod : o.dst <;> simp [hod]
  have main : ∀ (fuel : Nat) (listed : Array Bool) (a' : Act) (W : World), listed.toList.count false = fuel → (∀ j, l1.length ≤ j → listed.getD j false = false) → InvG l R Φ a w listed a' W → wpAny P .any l.toArray Q fuel listed a' W := by
    intro fuel
    have cnt : ∀ (listed : Array Bool), listed.size = l.length → (∀ j, l1.length ≤ j → listed.getD j false = false) → (∀ j, j < l1.length → listed.getD j false = true) → listed.toList.count false = l.length - l1.length := by
      intro listed hs hlo hall
      have e : listed.toList = List.replicate l1.length true ++ List.replicate (l.length - l1.length) false := by
        apply List.ext_getElem?
        intro i
        by_cases hi : i < listed.size
        · have hg : ∀ b, listed.getD i false = b → listed.toList[i]? = some b := fun b hb => by
            rw [getD_of_lt hi false true] at hb
            simp only [Array.getD_eq_getD_getElem?, Array.getElem?_eq_getElem hi, Option.getD_some] at hb
            simp [hi, hb]
          by_cases h : i < l1.length
          · rw [hg true (hall i h), List.getElem?_append_left (by simpa using h)]
            simp [h]
          · rw [hg false (hlo i (by omega)), List.getElem?_append_right (by simp; omega), List.getElem?_replicate, if_pos (by rw [List.length_replicate]; omega)]
        · rw [List.getElem?_eq_none (by simpa using hi), List.getElem?_eq_none (by simp; omega)]
      rw [e, List.count_append, List.count_replicate, List.count_replicate]
      simp
    induction fuel with
    | zero =>
      intro listed a' W hc hlo hI
      have hall' : ∀ i, i < l.length → listed.getD i false = true := by
        intro i hi
        have hi' : i < listed.size := by rw [hI.lsize]; exact hi
        cases hb : listed.getD i false with
        | true => rfl
        | false =>
          exfalso
          have : false ∈ listed.toList := by
            simp only [Array.getD_eq_getD_getElem?, Array.getElem?_eq_getElem hi', Option.getD_some] at hb
            rw [← hb]; simp
          have := List.count_pos_iff.2 this
          omega
      have hall : ∀ i, i < l1.length → listed.getD i false = true := fun i hi => hall' i (by omega)
      have hc2 := cnt listed hI.lsize hlo hall
      have := fin listed a' W hc2 hlo hall hI
      rw [show l.length - l1.length = 0 by omega] at this
      exact this
    | succ fuel ih =>
      intro listed a' W hc hlo hI
      by_cases hall : ∀ j, j < l1.length → listed.getD j false = true
      · have hc2 := cnt listed hI.lsize hlo hall
        have := fin listed a' W hc2 hlo hall hI
        rw [show l.length - l1.length = fuel + 1 by omega] at this
        exact this
      · obtain ⟨j0, hj0⟩ := Classical.not_forall.1 hall
        obtain ⟨hj0l, hj0f⟩ := Classical.not_imp.1 hj0
        refine ⟨fun h0 => ?_, fun i hi => ?_⟩
        · exact absurd (all_listed hback hI.lsize h0 j0 (by omega)) hj0f
        · obtain ⟨hl0, o, ho, hwait⟩ := mem_ready.1 hi
          have ho' : l[i]? = some o := by simpa using ho
          have hil : i < l.length := (List.getElem?_eq_some_iff.1 ho').1
          have hil' : i < listed.size := by rw [hI.lsize]; exact hil
          have hlf : listed.getD i false = false := by
            rw [getD_of_lt hil' false true]; exact hl0
          have hanc : ∀ n k, ancB l n i k = true → listed.getD k false = true := by
            intro n k hk
            cases n with
            | zero => simp [ancB] at hk
            | succ n =>
              unfold ancB at hk
              rw [ho'] at hk
              obtain ⟨e, he, hh⟩ := List.any_eq_true.1 hk
              simp only [Bool.and_eq_true, Bool.or_eq_true, decide_eq_true_eq] at hh
              have h1 := hwait e (by simpa using he) hh.1
              rcases hh.2 with h2 | h2
              · rw [← h2]; exact h1
              · exact hI.down.anc n e.on k h1 h2
          have hi1 : i < l1.length := by
            rcases Nat.lt_or_ge i l1.length with h | h
            · exact h
            · exact absurd (hanc _ _ (tailB_spec htail hil h (by omega : j0 < i))) hj0f
          have hAt : AtG l R Φ a w i o a' W := ⟨hI.rel, hI.size, hI.defers,
            fun d hd => hI.old d (fun j oj hj hdj => by
              have hji := hd j oj hj hdj
              cases hlj : listed.getD j false with
              | false => rfl
              | true =>
                have := hI.down.anc _ j i hlj hji
                rw [hlf] at this; cases this),
            fun j hj ha => hI.new j hj (hanc _ j ha)⟩
          have hG := hstep i o (by rw [hl1 i hi1]; exact ho') a' W hAt
          have hnext : ∀ v W2, R W W2 → (∀ s : Nat → Value, (o.dst.isSome = true → s i = v) → (∀ k, k ≠ i → ancB l l.length i k = true → s k = sv l a' k) → Φ i s W2) → wpAny P .any l.toArray Q fuel (listed.setIfInBounds i true) (a'.put o.dst v) W2 := by
            intro v W2 hR hv
            have hin' : ∀ d ∈ l.filterMap (·.dst), d < a'.tmps.size := fun d hd => by rw [hI.size]; exact hin d hd
            have hset : ∀ j, j ≠ i → (listed.setIfInBounds i true).getD j false = listed.getD j false := fun j hj => getD_set_ne false (Ne.symm hj)
            refine ih _ _ _ ?_ (fun j hj => by rw [hset j (by omega)]; exact hlo j hj) ?_
            · have := count_set listed.toList i (by simp [hil']; simpa [Array.getD_eq_getD_getElem?, hil'] using hlf)
              rw [Array.toList_setIfInBounds]; omega
            · refine ⟨hRt hI.rel hR, by simpa using hI.lsize, by rw [put_size]; exact hI.size, by rw [put_defers]; exact hI.defers, ?_, ?_, ?_⟩
              · intro d hd
                have hne : o.dst ≠ some d := fun e => by
                  have := hd i o ho' e
                  simp [Array.getD_eq_getD_getElem?, hil'] at this
                rw [put_other hne]
                refine hI.old d (fun j oj hj hdj => ?_)
                by_cases hji : j = i
                · subst hji; exact hlf
                · have := hd j oj hj hdj
                  rwa [hset j hji] at this
              · intro j hj hlj
                by_cases hji : j = i
                · subst hji
                  exact hv _ (fun hd => sv_put_self ho' hin' hd) (fun k hk _ => sv_put_other hun ho' hk)
                · rw [hset j hji] at hlj
                  refine hst j _ _ _ _ (hI.new j hj hlj) (fun k hk => sv_put_other hun ho' ?_) hR
                  rintro rfl
                  have h1 := List.all_eq_true.1 (List.all_eq_true.1 hreads j (List.mem_range.2 hj)) k hk
                  simp only [Bool.or_eq_true, decide_eq_true_eq] at h1
                  rcases h1 with h1 | h1
                  · exact hji h1.symm
                  · have := hI.down.anc _ j k hlj h1
                    rw [hlf] at this; cases this
              · intro j oj hj hlj e he hb
                by_cases hji : j = i
                · subst hji
                  rw [ho'] at hj; cases hj
                  exact getD_set_true (hwait e he hb)
                · rw [hset j hji] at hlj
                  exact getD_set_true (hI.down j oj hj hlj e he hb)
          unfold wpOp
          rw [show l.toArray[i]? = some o by simpa using ho']
          unfold GoesG at hG
          by_cases hwant : Region.wanted o (yielded l.toArray a'.tmps) = true
          · rw [if_pos hwant] at hG
            simp only [hwant, if_true]
            exact .inl (Oper.wp_mono (fun a2 W2 ⟨v, e, hR, hv⟩ => by rw [e]; exact hnext v W2 hR hv) hG)
          · rw [if_neg hwant] at hG
            simp only [hwant]
            exact hnext undef W hG.1 hG.2
  have h0 := main l.length (Array.replicate l.length false) a { w with drawn := w.drawn + 1 } (by simp) (fun j _ => getD_false _ _)
    ⟨hR0 w, by simp, rfl, rfl, fun _ _ => rfl, (fun j _ h => by rw [getD_false] at h; cases h), (fun j oj _ h => by rw [getD_false] at h; cases h)⟩
  simpa using h0

end Go.Proofs.YtgkalcboklhdgaaDoor

namespace Go.Proofs.YtgkalcboklhdgaaDoor
open Go.RowKit
set_option linter.unusedVariables false
set_option linter.unusedSimpArgs false
open Ex

/-- where the row lies behind an append: where it lay, or in new memory -/
theorem app_where {w : World} {base : Nat} {v : Value} {rs : List XE} (h : RowE base v rs w) (x : Addr) (r : XE) (hx : ∀ j u, (ec r)[j]? = some u → w.cell? (x.add j) = some u) (hlen : rs.length ≤ 2199023255488) (hbase : base ≤ w.heap.size) :
    ∃ v' w', (Builtin.append_ #[22, 22] 22 #[v, .slice (some x) 1 1]).run Tryd.prog w = .ok v' w' ∧ RowE base v' (rs ++ [r]) w' ∧ w.grownBy w' v.ownBlock ∧ (∀ g, v'.ownBlock = some g → v.ownBlock = some g ∨ w.heap.size ≤ g) := by
  obtain ⟨i0, hi, hz0, hz1, hz2⟩ := info_parts infoEx
  have hl1 : (ec r).length = 1 * 5 := rfl
  have h1 : ∀ u ∈ ec r, u.oneCell' = true := fun u hu => rowC_one [r] u (by simpa [rowC] using hu)
  obtain ⟨v', w', hr, h2, h3, h4⟩ := run_append_own (P := Tryd.prog) w base 22 22 tEx i0 (.agg #[.int .i64 0, .int .i64 0, sV [], .int .i64 0, .slice none 0 0]) 5 64 Tryd.underlying22 hi hz0 hz1 hz2 rfl (by decide) v rs.length (rowC rs) h x 1 1 (ec r) hl1 hx h1 (by unfold maxLen; omega) (by omega) hbase
  have h5 : RowE base v' (rs ++ [r]) w' := by
    unfold RowE
    rw [rowC_app, List.length_append]
    simpa [rowC] using h2
  refine ⟨v', w', hr, h5, h3, ?_⟩
  intro g hg
  have hl2 : (ec r).length = 1 * i0.size := by rw [hz1]; rfl
  have hl3 : (rowC rs).length = rs.length * i0.size := by rw [hz1]; exact rowC_length rs
  rcases h.2 with ⟨rfl, hn⟩ | ⟨g0, cap, cur, rfl, hbg, hg0, hnc, hcm, hcs, htake⟩
  · have hr2 := run_append_nil (P := Tryd.prog) w 22 22 tEx i0 _ Tryd.underlying22 hi hz0 x 1 1 (ec r) hl2 hx (by omega) (by omega) (by rw [hz2]; omega)
    rw [hr2] at hr
    cases hr
    cases hg
    exact .inr (Nat.le_refl _)
  · by_cases hroom : rs.length + 1 ≤ cap
    · have hfit : rs.length * i0.size + (ec r).length ≤ cur.size := by rw [hl1, hcs, hz1]; omega
      have hr2 := run_append_room (P := Tryd.prog) w 22 22 tEx i0 Tryd.underlying22 hi g0 rs.length cap cur hg0 x 1 1 (ec r) hl2 hx h1 hroom hfit
      rw [hr2] at hr
      cases hr
      cases hg
      exact .inl rfl
    · have hr2 := run_append_grow (P := Tryd.prog) w 22 22 tEx i0 _ Tryd.underlying22 hi hz0 ⟨g0, 0, none⟩ rs.length cap (rowC rs) hl3 (World.ownsRow.cells (g := g0) h rfl) x 1 1 (ec r) hl2 hx (by omega) (by omega) (growslice_fits (by omega) (by rw [hz2]; omega))
      rw [hr2] at hr
      cases hr
      cases hg
      exact .inr (Nat.le_refl _)

variable {ops : Array Oper} {rest : List Oper} {o : Oper} {a : Act} {Q : Exit → Act → World → Prop}
theorem wp_appE (hgd : o.guard = none) (s x : Operand) (ho : o.op = .call { callee := .builtin .append, args := #[s, x], argTypes := #[22, 22] }) (hty : o.type = 22)
    (base : Nat) (v : Value) (rs : List XE) (hs : a.eval s = v) (W : World) (h : RowE base v rs W) (r : XE) (hx : a.eval x = .slice (some ⟨W.heap.size, 0, none⟩) 1 1) (hlen : rs.length ≤ 2199023255488) (hbase : base ≤ W.heap.size)
    (hK : ∀ v' w', RowE base v' (rs ++ [r]) w' → Below base W w' → (∀ b, b < W.heap.size → v.ownBlock ≠ some b → w'.heap[b]? = W.heap[b]? ∧ v'.ownBlock ≠ some b) → wpList Tryd.prog ops Q rest (a.put o.dst v') w') : wpList Tryd.prog ops Q (o :: rest) a (W.alloc (.cells #[.int .i64 r.1.kind, .int .i64 r.1.op, sV r.1.name, .int .i64 r.1.value, .slice r.2.1 r.1.args.length r.2.2] tEx)) := by
  have hb := alloc_here W (.cells #[.int .i64 r.1.kind, .int .i64 r.1.op, sV r.1.name, .int .i64 r.1.value, .slice r.2.1 r.1.args.length r.2.2] tEx)
  have hE : Ext W (W.alloc (.cells #[.int .i64 r.1.kind, .int .i64 r.1.op, sV r.1.name, .int .i64 r.1.value, .slice r.2.1 r.1.args.length r.2.2] tEx)) := (Below.refl _ W).alloc (Nat.le_refl _) _
  have hB : Below base W (W.alloc (.cells #[.int .i64 r.1.kind, .int .i64 r.1.op, sV r.1.name, .int .i64 r.1.value, .slice r.2.1 r.1.args.length r.2.2] tEx)) := (Below.refl _ W).alloc hbase _
  have hsz : W.heap.size ≤ (W.alloc (.cells #[.int .i64 r.1.kind, .int .i64 r.1.op, sV r.1.name, .int .i64 r.1.value, .slice r.2.1 r.1.args.length r.2.2] tEx)).heap.size := by simp
  have hcell : ∀ j u, (ec r)[j]? = some u → (W.alloc (.cells #[.int .i64 r.1.kind, .int .i64 r.1.op, sV r.1.name, .int .i64 r.1.value, .slice r.2.1 r.1.args.length r.2.2] tEx)).cell? ((⟨W.heap.size, 0, none⟩ : Addr).add j) = some u := by
    intro j u hu
    have e : (⟨W.heap.size, 0, none⟩ : Addr).add j = ⟨W.heap.size, j, none⟩ := by unfold Addr.add; split <;> simp_all
    rw [e]
    exact cell_of hb (by simpa [ec] using hu)
  obtain ⟨v', w', hr, h2, h3, h4⟩ := app_where (h.ext hE) ⟨W.heap.size, 0, none⟩ r hcell hlen (by omega)
  refine wpList_plain hgd fun K hKK => ?_
  unfold Oper.wp
  simp only [execOp, ho, hty, resolve, invoke, builtin, Sem.run_bind, Sem.run_pure, Result.andThen_ok, List.map_toArray, List.map_cons, List.map_nil, hs, hx, hr]
  refine hKK _ _ (hK v' w' h2 ?_ (fun b hb1 hb2 => ⟨?_, fun e => ?_⟩))
  · exact hB.grown h3 (by omega) (fun k e => (World.ownsRow.lt h k e).1)
  · exact (h3.block b (by omega) (fun e => hb2 e.symm)).trans (hE.below.block b hb1)
  · rcases h4 b e with h5 | h5
    · exact hb2 h5
    · omega

end Go.Proofs.YtgkalcboklhdgaaDoor

namespace Go.Proofs.YtgkalcboklhdgaaDoor
open Go.RowKit
set_option linter.unusedVariables false
set_option linter.unusedSimpArgs false
open Ex

/-- the class of blocks of what a row's elements became -/
def OffV (w₀ w : World) (v : Value) (b : Nat) : Prop := (b < w₀.heap.size ∨ w.heap.size ≤ b) ∧ v.ownBlock ≠ some b
/-- a row of the first elements' images -/
def AppInv (f : Ex → Ex) (w₀ w : World) (ts : List Ex) (v : Value) (rj : List XE) (wr : World) : Prop :=
  ∀ i (h : i < rj.length) (h2 : i < ts.length), rj[i].1 = f ts[i] ∧ AtB (OffV w₀ w v) wr rj[i].2.1 (f ts[i])
theorem AppInv.start {f : Ex → Ex} {w₀ w : World} {ts : List Ex} {v : Value} {wr : World} : AppInv f w₀ w ts v [] wr := fun i h _ => by simp at h
theorem AppInv.ext {f : Ex → Ex} {w₀ w : World} {ts : List Ex} {v : Value} {rj : List XE} {wr W : World} (h : AppInv f w₀ w ts v rj wr) (hE : Ext wr W) : AppInv f w₀ w ts v rj W :=
  fun i h1 h2 => ⟨(h i h1 h2).1, (h i h1 h2).2.ext hE⟩
theorem AppInv.step {f : Ex → Ex} {w₀ w : World} {ts : List Ex} {v v' : Value} {rj : List XE} {wr W : World} (h : AppInv f w₀ w ts v rj wr) (hj : rj.length < ts.length) (q : Option Addr) (d : Nat)
    (hk : ∀ b, b < wr.heap.size → v.ownBlock ≠ some b → W.heap[b]? = wr.heap[b]? ∧ v'.ownBlock ≠ some b) (hA : AtB (OffV w₀ w v) wr q (f ts[rj.length])) : AppInv f w₀ w ts v' (rj ++ [(f ts[rj.length], q, d)]) W := by
  have hK : ∀ {p : Option Addr} {e : Ex}, AtB (OffV w₀ w v) wr p e → AtB (OffV w₀ w v') W p e := fun h => h.keep (fun b hb hl => ⟨⟨hb.1, (hk b hl hb.2).2⟩, (hk b hl hb.2).1⟩)
  intro i h1 h2
  by_cases hi : i < rj.length
  · rw [List.getElem_append_left hi]
    exact ⟨(h i hi h2).1, hK (h i hi h2).2⟩
  · have hie : i = rj.length := by simp at h1; omega
    subst hie
    rw [List.getElem_append_right (Nat.le_refl _)]
    simp only [Nat.sub_self, List.getElem_cons_zero]
    exact ⟨trivial, hK hA⟩
/-- the row is an expression's -/
theorem AppInv.done {f : Ex → Ex} {w₀ w : World} {ts : List Ex} {base : Nat} {v : Value} {rj : List XE} {wr : World} {S : Nat → Prop} (h : AppInv f w₀ w ts v rj wr) (hl : rj.length = ts.length)
    (hrow : RowE base v rj wr) {k o x : Int} {n : List UInt8} (hf : fits (.mk k o n x ts)) (hS : ∀ b, base ≤ b → S b) (hSS : ∀ b, b < w₀.heap.size ∨ w.heap.size ≤ b → S b) :
    ∃ p cap, v = .slice p ts.length cap ∧ ∀ W, (∀ b, base ≤ b ∨ b < w₀.heap.size ∨ w.heap.size ≤ b → b < wr.heap.size → W.heap[b]? = wr.heap[b]?) → AtB S W p (.mk k o n x (ts.map f)) := by
  have hfit : fits (.mk k o n x (ts.map f)) := by
    obtain ⟨f1, f2, f3, f4, f5⟩ := hf
    refine ⟨f1, f2, f3, f4, ?_⟩
    show (ts.map f).length ≤ _
    rw [List.length_map]; exact f5
  rcases hrow.forms with ⟨rfl, hr0⟩ | ⟨g, cap, rfl, hgb, hgl⟩
  · have h0 : ts.length = 0 := by rw [← hl, hr0]; rfl
    have h1 := List.eq_nil_of_length_eq_zero h0
    subst h1
    exact ⟨none, 0, rfl, fun W _ => ⟨hfit, trivial⟩⟩
  · refine ⟨some ⟨g, 0, none⟩, cap, by rw [hl], fun W hk => ⟨hfit, AtBL.of_get (fun _ => hS g hgb) (fun i hi => ?_)⟩⟩
    rw [List.length_map] at hi
    have hi2 : i < rj.length := by rw [hl]; exact hi
    obtain ⟨e1, e2⟩ := h i hi2 hi
    refine ⟨rj[i].2.1, rj[i].2.2, ?_, ?_⟩
    · rw [List.getElem_map, ← e1, Nat.zero_add, Nat.zero_add]
      exact (RowE.cells hrow i hi2).block (hk g (.inl hgb) hgl)
    · rw [List.getElem_map]
      exact e2.keep (fun b hb hb2 => ⟨hSS b hb.1, hk b (.inr hb.1) hb2⟩)
theorem RowE.empty (w : World) (base : Nat) (hb : base ≤ w.heap.size) : RowE base (.slice (some ⟨w.heap.size, 0, none⟩) 0 0) [] (w.alloc (.cells #[] tEx)) :=
  World.ownsRow_lit w #[] 0 hb (by unfold maxLen; omega) (by simp)

set_option maxHeartbeats 4000000 in
theorem refFold_any (w₀ : World) : ∀ (n : Nat) (e : Ex), e.size ≤ n → e.fe = 0 → ∀ (p : Option Addr) (c : Nat), Ex.At w₀ p e → ∀ w, Ext w₀ w →
    Calls Tryd.prog 47 #[e.val p c] w fun r w' => Ext w w' ∧ ∃ q d, r = .returned ((mp foldOne e).val q d) ∧ AtB (fun b => b < w₀.heap.size ∨ w.heap.size ≤ b) w' q (mp foldOne e) := by
  intro n
  induction n with
  | zero => intro e he; have := e.size_pos; omega
  | succ n ih =>
    intro e he hfe p c hA w hw
    have C1 := Lib.hid (fun W pb (h : Ext w W) => show Gives _ _ #[.agg #[.int .i64 e.kind, .int .i64 e.op, sV e.name, .int .i64 e.value, .slice p e.args.length c], .slice pb 0 0] _ _ from refTyped_any [] pb 0 e.size e (Nat.le_refl _) p c W (hA.below (Ext.trans hw h)) ⟨by simp, fun j h => by simp at h⟩ hfe)
    have C3 := Lib.hid (fun t (hz : e.ty [] = (t, 0)) W pb (h : Ext w W) => show Gives _ _ #[.agg #[.int .i64 e.kind, .int .i64 e.op, sV e.name, .int .i64 e.value, .slice p e.args.length c], .slice pb 0 0] _ _ from
      refValue_any [] bnds_nil pb 0 e.size e (Nat.le_refl _) p c W (hA.below (Ext.trans hw h)) ⟨by simp, fun j h => by simp at h⟩ hfe t hz)
    have hHT : cst e = if (e.ty []).2 ≠ 0 ∨ (e.ty []).1 ≠ 1 then (0, false) else ((e.ev []).1, (e.ev []).2 == 0) := rfl
    have hbd := cst_bd hfe
    have hHM : mp foldOne e = if (cst e).2 then lit (cst e).1 else .mk e.kind e.op e.name e.value (e.args.map (mp foldOne)) := by
      obtain ⟨k, o, nm, x, ts⟩ := e
      simp only [mp, mps_map]
      unfold foldOne
      cases hb : (cst (.mk k o nm x ts)).2 <;> rfl
    have C2 := Lib.hid (fun W => refLiteral_any (cst e).1 W hbd.1 hbd.2)
    have hv : e.val p c = .agg #[.int .i64 e.kind, .int .i64 e.op, sV e.name, .int .i64 e.value, .slice p e.args.length c] := rfl
    rw [hv]
    have IH := Lib.hid (fun t (ht : t ∈ e.args) => ih t (by obtain ⟨j, hj, rfl⟩ := List.getElem_of_mem ht; have h1 := size_get e.args j hj; have h2 := size_args e; omega) (by
      obtain ⟨j, hj, rfl⟩ := List.getElem_of_mem ht
      cases e; exact fes_get (fe_mk hfe).2 j hj))
    have HR := Lib.hid (show Ex.AtL w₀ p 0 e.args from hA.row)
    have HFit := Lib.hid (show fits (.mk e.kind e.op e.name e.value e.args) by cases e; exact hA.fit)
    have hl : e.args.length ≤ 2199023255488 := HFit.out.2.2.2.2
    clear ih hv he hA hfe
    generalize mp foldOne e = R at *
    generalize cst e = cs at *
    generalize e.ty [] = ty at *
    generalize e.ev [] = ev at *
    obtain ⟨t1, t2⟩ := ty
    obtain ⟨v2, v3⟩ := ev
    have HT := Lib.hid hHT
    have HM := Lib.hid hHM
    have HW := Lib.hid hw
    clear hHT hHM hbd hw
    unfold i2V at C1 C3
    simp only at C1 C3
    generalize hts : e.args.length = nts at *
    have HTS := Lib.hid hts
    clear hts
    generalize e.kind = k1 at *
    generalize e.op = o1 at *
    generalize e.name = n1 at *
    generalize e.value = v1 at *
    obtain ⟨hb0, hb1, hE0⟩ := two_boxes w (.int .i64 k1) (.int .i64 o1) (sV n1) (.int .i64 v1) (.slice p nts c) (.int .i64 0) (.int .i64 0) (.string { data := #[] }) (.int .i64 0) (.slice none 0 0) tEx
    have HB0 := Lib.hid hb0
    have HB1 := Lib.hid hb1
    have HE0 := Lib.hid hE0
    clear hb0 hb1 hE0
    have HE1 := Lib.hid (fun o => HE0.out.alloc (by simp; omega) o)
    go_enter Tryd.func47, Tryd.ntmps47
    go_wp2_with fail
    refine (C1.out _ _ (HE1.out _)).mono ?_
    intro w1 hB1
    replace hB1 : Ext _ w1 := hB1
    have HB0a := Lib.hid (((Ext.trans ((Below.refl _ _).alloc (Nat.le_refl _) _) hB1).below.block _ (lt_of_block HB0.out)).trans HB0.out)
    have HB1a := Lib.hid (((Ext.trans ((Below.refl _ _).alloc (Nat.le_refl _) _) hB1).below.block _ (lt_of_block HB1.out)).trans HB1.out)
    have HWa := Lib.hid (Ext.trans (Ext.trans HE0.out ((Below.refl _ _).alloc (Nat.le_refl _) _)) hB1)
    have HL1 := Lib.hid (lt_of_block HB1a.out)
    clear hB1 C1 HE0 HE1 HB0 HB1
    by_cases h1 : t2 = 0 ∧ t1 = 1
    · obtain ⟨rfl, rfl⟩ := h1
      have C3' := Lib.hid (C3.out 1 rfl)
      have hcs : cs = (v2, v3 == 0) := by rw [HT.out, if_neg (by simp)]
      clear C3 HT
      subst hcs
      obtain ⟨d0, d1, d2, d3, d4, f0⟩ := box5 HB0a.out
      go_wp2_with fail
      clear d0 d1 d2 d3 d4 f0
      refine (C3'.out _ _ (Ext.trans HWa.out ((Below.refl _ _).alloc (Nat.le_refl _) _))).mono ?_
      intro w2 hB2
      replace hB2 : Ext _ w2 := hB2
      have hE12 := Ext.trans ((Below.refl _ w1).alloc (Nat.le_refl _) _) hB2
      have HBX0 := Lib.hid ((hE12.below.block _ (lt_of_block HB0a.out)).trans HB0a.out)
      have HBX1 := Lib.hid ((hE12.below.block _ (lt_of_block HB1a.out)).trans HB1a.out)
      have HWX := Lib.hid (Ext.trans HWa.out hE12)
      replace HL1 := Lib.hid (Nat.lt_of_lt_of_le HL1.out hE12.size)
      clear hB2 hE12 C3' HWa HB0a HB1a
      by_cases h3 : v3 = 0
      · subst h3
        have HRR := Lib.hid (show R = lit v2 from HM.out)
        go_wp2_with fail
        refine (C2.out w2).mono ?_
        rintro _ w3 ⟨q, d, rfl, hT, hE2⟩
        replace hE2 : Ext w2 w3 := hE2
        have hbr := (hE2.below.block _ (lt_of_block HBX1.out)).trans HBX1.out
        obtain ⟨e0, e1, e2, e3, e4, f0⟩ := box5 hbr
        have HBR := Lib.hid hbr
        have hl1 := HL1.out
        have HTT := Lib.hid (hT.imp (S' := fun b => w.heap.size + 2 ≤ b) (fun b hb _ => by omega))
        have HW3 := Lib.hid (Ext.trans HWX.out hE2)
        clear hbr hT hE2 C2
        dsimp only
        generalize lit v2 = T at *
        unfold Ex.val
        go_wp2
        obtain ⟨V, hV, g0, g1, g2, g3, g4, h4, h5⟩ := put5b HBR.out (.int .i64 T.kind) (.int .i64 T.op) (sV T.name) (.int .i64 T.value) (.slice q T.args.length d)
        rw [hV]
        refine bodyPost_ret (v := .agg #[.int .i64 T.kind, .int .i64 T.op, sV T.name, .int .i64 T.value, .slice q T.args.length d]) (by simp [results, Tryd.f47, go_sem, g0, g1, g2, g3, g4, sB_nil]) rfl ⟨Below.trans HW3.out (h4 _ (by omega)), q, d, by rw [HRR.out]; rfl, by
          rw [HRR.out]
          exact HTT.out.keep (fun b hb hb2 => ⟨.inr (by omega), h5 b (by omega)⟩)⟩
      · have hg1 : (v3 == 0) = false := by simpa using h3
        have HRR := Lib.hid (show R = .mk k1 o1 n1 v1 (e.args.map (mp foldOne)) by rw [HM.out, hg1]; rfl)
        clear HM C2 h3
        have hl1 := HL1.out
        go_wp2
        go_loopw [7, 8] (fun u i wr => ∃ rj v, v = u ∧ rj.length ≤ nts ∧ i = .int .i64 ((rj.length : Nat) : Int) ∧ RowE w2.heap.size v rj wr ∧ AppInv (mp foldOne) w₀ w2 e.args v rj wr ∧ Ext w2 wr) (fun _ i _ => nts - (intOf i).toNat)
        case atStart => exact ⟨[], _, rfl, Nat.zero_le _, rfl, RowE.empty _ _ (Nat.le_refl _), AppInv.start, (Below.refl _ w2).alloc (Nat.le_refl _) _⟩
        case round =>
          obtain ⟨rj, v, hvu, hj, rfl, hr, hI, hE⟩ := hrel
          subst hvu
          have hbe := (hE.below.block _ (lt_of_block HBX0.out)).trans HBX0.out
          have hbr := (hE.below.block _ (lt_of_block HBX1.out)).trans HBX1.out
          obtain ⟨d0, d1, d2, d3, d4, f0⟩ := box5 hbe
          have hEw := Ext.trans HW.out (Ext.trans HWX.out hE)
          by_cases hlt : rj.length < nts
          · have hjt : rj.length < e.args.length := by rw [HTS.out]; exact hlt
            obtain ⟨b, off, q2, dd2, rfl, hcs, hA1⟩ := HR.out.get rj.length hjt
            rw [Nat.zero_add] at hcs
            obtain ⟨c0, c1, c2, c3, c4⟩ := hcs.below hEw
            have D := Lib.hid (show Calls _ _ #[.agg #[.int .i64 (e.args[rj.length]).kind, .int .i64 (e.args[rj.length]).op, sV (e.args[rj.length]).name, .int .i64 (e.args[rj.length]).value, .slice q2 (e.args[rj.length]).args.length dd2]] _ _ from IH.out e.args[rj.length] (List.getElem_mem hjt) q2 dd2 hA1 wr hEw)
            obtain ⟨T, hT⟩ : ∃ T, mp foldOne e.args[rj.length] = T := ⟨_, rfl⟩
            rw [hT] at D
            have HT1 := Lib.hid hT
            have HRO := Lib.hid hr
            have HI := Lib.hid hI
            have HE := Lib.hid hE
            clear hT hr hI hE hbe hbr hcs hA1 hEw
            generalize (e.args[rj.length]).kind = k2 at *
            generalize (e.args[rj.length]).op = o2 at *
            generalize (e.args[rj.length]).name = n2 at *
            generalize (e.args[rj.length]).value = v2' at *
            generalize (e.args[rj.length]).args.length = l2 at *
            go_wp2_with fail
            refine D.out.mono ?_
            clear D
            rintro _ w4 ⟨hE4, q3, d3', rfl, hA3⟩
            unfold Ex.val
            have HA3 := Lib.hid hA3
            have HE4 := Lib.hid hE4
            have hsz : w2.heap.size ≤ w4.heap.size := Nat.le_trans HE.out.size hE4.size
            have hr4 := HRO.out.ext hE4
            have HR4 := Lib.hid hr4
            clear hE4 hA3 hr4
            go_wp2_with (at_builtin; go_loud (refine wp_appE (by rfl) _ _ (by rfl) (by rfl) w2.heap.size v rj (by rfl) w4 HR4.out (T, q3, d3') (by rfl) (by omega) hsz ?_); intro v' w5 hrow5 hbel5 hkb5)
            have HROW5 := Lib.hid hrow5
            have HBEL5 := Lib.hid hbel5
            have HKB5 := Lib.hid hkb5
            clear hrow5 hbel5 hkb5
            go_wp2
            refine ⟨?_, ?_⟩
            · have hgl := World.ownsRow.lt HRO.out
              have hs0 := HW.out.size
              have hs1 := HWX.out.size
              have hs2 := HE.out.size
              have hA4 : AtB (OffV w₀ w2 v) w4 q3 (mp foldOne e.args[rj.length]) := by
                rw [HT1.out]
                refine HA3.out.imp (fun b hb _ => ?_)
                rcases hb with hb | hb
                · exact ⟨.inl hb, fun e => by have := (hgl b e).1; omega⟩
                · exact ⟨.inr (by omega), fun e => by have := (hgl b e).2; omega⟩
              have hst := AppInv.step (v' := v') (W := w5) (HI.out.ext HE4.out) hjt q3 d3' HKB5.out hA4
              rw [HT1.out] at hst
              exact ⟨rj ++ [(T, q3, d3')], _, rfl, by simp; omega, by rw [List.length_append]; go_num, HROW5.out, hst, Below.trans (Ext.trans HE.out HE4.out) HBEL5.out⟩
            · simp [intOf]; omega
          · have hjn : rj.length = nts := by omega
            have hjl : rj.length = e.args.length := by rw [hjn, HTS.out]
            have hs0 := HW.out.size
            have hs1 := HWX.out.size
            obtain ⟨p', cap', hv', hdone⟩ := AppInv.done (S := fun b => b < w₀.heap.size ∨ w.heap.size ≤ b) hI hjl hr HFit.out (fun b hb => .inr (by omega)) (fun b hb => by omega)
            rw [HTS.out] at hv'
            subst hv'
            obtain ⟨g0, g1, g2, g3, g4, f1⟩ := box5 hbr
            have HE := Lib.hid hE
            have HBE := Lib.hid hbe
            have HBR := Lib.hid hbr
            have HD := Lib.hid hdone
            clear hr hI hE hbe hbr hdone hjl hjn hs0 hs1 hEw
            go_wp2
            have h6 : ∀ b, b ≠ w.heap.size → (wr.setCell ⟨w.heap.size, 4, none⟩ (.slice p' nts cap')).heap[b]? = wr.heap[b]? := fun b hb => Below.heap_setCell _ ⟨w.heap.size, 4, none⟩ _ _ hb
            have h7 : Below w.heap.size wr (wr.setCell ⟨w.heap.size, 4, none⟩ (.slice p' nts cap')) := (Below.refl _ wr).setCell (p := ⟨w.heap.size, 4, none⟩) (Nat.le_refl _) _
            obtain ⟨V, hV, m0, m1, m2, m3, m4, h4, h5⟩ := put5b (W := wr.setCell ⟨w.heap.size, 4, none⟩ (.slice p' nts cap')) ((h6 (w.heap.size + 1) (by omega)).trans HBR.out) (.int .i64 k1) (.int .i64 o1) (.string (sB n1)) (.int .i64 v1) (.slice p' nts cap')
            rw [hV]
            have hs0 := HW.out.size
            have hs1 := HWX.out.size
            have hl1 := HL1.out
            refine bodyPost_ret (v := .agg #[.int .i64 k1, .int .i64 o1, .string (sB n1), .int .i64 v1, .slice p' nts cap']) (by simp [results, Tryd.f47, go_sem, m0, m1, m2, m3, m4, sB_nil]) rfl ⟨Below.trans (Below.trans (Ext.trans HWX.out HE.out) h7) (h4 _ (by omega)), p', cap', ?_, ?_⟩
            · rw [HRR.out]
              have hla : (e.args.map (mp foldOne)).length = nts := by rw [List.length_map]; exact HTS.out
              show _ = Ending.returned (.agg #[.int .i64 k1, .int .i64 o1, sV n1, .int .i64 v1, .slice p' (e.args.map (mp foldOne)).length cap'])
              rw [hla]
            · rw [HRR.out]
              refine HD.out V (fun b hb hl => ?_)
              have hne : b ≠ w.heap.size ∧ b ≠ w.heap.size + 1 := by omega
              rw [h5 b hne.2, h6 b hne.1]
    · have hc : (t2 == 0) = false ∨ (t1 == 1) = false := by
        by_cases h : t2 = 0
        · right; simpa using fun h' => h1 ⟨h, h'⟩
        · left; simpa using h
      have HRR := Lib.hid (show R = .mk k1 o1 n1 v1 (e.args.map (mp foldOne)) by
        have h2 : cs = (0, false) := by
          rw [HT.out, if_pos]
          by_cases h : t2 = 0
          · exact .inr fun h' => h1 ⟨h, h'⟩
          · exact .inl h
        rw [HM.out, h2]; rfl)
      have HBX0 := HB0a
      have HBX1 := HB1a
      have HWX := HWa
      clear HM HT C2 C3 h1 HB0a HB1a HWa
      have hg0 : ((t2 == 0) && (t1 == 1)) = false := by rcases hc with h | h <;> simp [h]
      cases hg2 : (t2 == 0) with
      | false =>
        clear hc hg0
        have hl1 := HL1.out
        go_wp2
        go_loopw [7, 8] (fun u i wr => ∃ rj v, v = u ∧ rj.length ≤ nts ∧ i = .int .i64 ((rj.length : Nat) : Int) ∧ RowE w1.heap.size v rj wr ∧ AppInv (mp foldOne) w₀ w1 e.args v rj wr ∧ Ext w1 wr) (fun _ i _ => nts - (intOf i).toNat)
        case atStart => exact ⟨[], _, rfl, Nat.zero_le _, rfl, RowE.empty _ _ (Nat.le_refl _), AppInv.start, (Below.refl _ w1).alloc (Nat.le_refl _) _⟩
        case round =>
          obtain ⟨rj, v, hvu, hj, rfl, hr, hI, hE⟩ := hrel
          subst hvu
          have hbe := (hE.below.block _ (lt_of_block HBX0.out)).trans HBX0.out
          have hbr := (hE.below.block _ (lt_of_block HBX1.out)).trans HBX1.out
          obtain ⟨d0, d1, d2, d3, d4, f0⟩ := box5 hbe
          have hEw := Ext.trans HW.out (Ext.trans HWX.out hE)
          by_cases hlt : rj.length < nts
          · have hjt : rj.length < e.args.length := by rw [HTS.out]; exact hlt
            obtain ⟨b, off, q2, dd2, rfl, hcs, hA1⟩ := HR.out.get rj.length hjt
            rw [Nat.zero_add] at hcs
            obtain ⟨c0, c1, c2, c3, c4⟩ := hcs.below hEw
            have D := Lib.hid (show Calls _ _ #[.agg #[.int .i64 (e.args[rj.length]).kind, .int .i64 (e.args[rj.length]).op, sV (e.args[rj.length]).name, .int .i64 (e.args[rj.length]).value, .slice q2 (e.args[rj.length]).args.length dd2]] _ _ from IH.out e.args[rj.length] (List.getElem_mem hjt) q2 dd2 hA1 wr hEw)
            obtain ⟨T, hT⟩ : ∃ T, mp foldOne e.args[rj.length] = T := ⟨_, rfl⟩
            rw [hT] at D
            have HT1 := Lib.hid hT
            have HRO := Lib.hid hr
            have HI := Lib.hid hI
            have HE := Lib.hid hE
            clear hT hr hI hE hbe hbr hcs hA1 hEw
            generalize (e.args[rj.length]).kind = k2 at *
            generalize (e.args[rj.length]).op = o2 at *
            generalize (e.args[rj.length]).name = n2 at *
            generalize (e.args[rj.length]).value = v2' at *
            generalize (e.args[rj.length]).args.length = l2 at *
            go_wp2_with fail
            refine D.out.mono ?_
            clear D
            rintro _ w4 ⟨hE4, q3, d3', rfl, hA3⟩
            unfold Ex.val
            have HA3 := Lib.hid hA3
            have HE4 := Lib.hid hE4
            have hsz : w1.heap.size ≤ w4.heap.size := Nat.le_trans HE.out.size hE4.size
            have hr4 := HRO.out.ext hE4
            have HR4 := Lib.hid hr4
            clear hE4 hA3 hr4
            go_wp2_with (at_builtin; go_loud (refine wp_appE (by rfl) _ _ (by rfl) (by rfl) w1.heap.size v rj (by rfl) w4 HR4.out (T, q3, d3') (by rfl) (by omega) hsz ?_); intro v' w5 hrow5 hbel5 hkb5)
            have HROW5 := Lib.hid hrow5
            have HBEL5 := Lib.hid hbel5
            have HKB5 := Lib.hid hkb5
            clear hrow5 hbel5 hkb5
            go_wp2
            refine ⟨?_, ?_⟩
            · have hgl := World.ownsRow.lt HRO.out
              have hs0 := HW.out.size
              have hs1 := HWX.out.size
              have hs2 := HE.out.size
              have hA4 : AtB (OffV w₀ w1 v) w4 q3 (mp foldOne e.args[rj.length]) := by
                rw [HT1.out]
                refine HA3.out.imp (fun b hb _ => ?_)
                rcases hb with hb | hb
                · exact ⟨.inl hb, fun e => by have := (hgl b e).1; omega⟩
                · exact ⟨.inr (by omega), fun e => by have := (hgl b e).2; omega⟩
              have hst := AppInv.step (v' := v') (W := w5) (HI.out.ext HE4.out) hjt q3 d3' HKB5.out hA4
              rw [HT1.out] at hst
              exact ⟨rj ++ [(T, q3, d3')], _, rfl, by simp; omega, by rw [List.length_append]; go_num, HROW5.out, hst, Below.trans (Ext.trans HE.out HE4.out) HBEL5.out⟩
            · simp [intOf]; omega
          · have hjn : rj.length = nts := by omega
            have hjl : rj.length = e.args.length := by rw [hjn, HTS.out]
            have hs0 := HW.out.size
            have hs1 := HWX.out.size
            obtain ⟨p', cap', hv', hdone⟩ := AppInv.done (S := fun b => b < w₀.heap.size ∨ w.heap.size ≤ b) hI hjl hr HFit.out (fun b hb => .inr (by omega)) (fun b hb => by omega)
            rw [HTS.out] at hv'
            subst hv'
            obtain ⟨g0, g1, g2, g3, g4, f1⟩ := box5 hbr
            have HE := Lib.hid hE
            have HBE := Lib.hid hbe
            have HBR := Lib.hid hbr
            have HD := Lib.hid hdone
            clear hr hI hE hbe hbr hdone hjl hjn hs0 hs1 hEw
            go_wp2
            have h6 : ∀ b, b ≠ w.heap.size → (wr.setCell ⟨w.heap.size, 4, none⟩ (.slice p' nts cap')).heap[b]? = wr.heap[b]? := fun b hb => Below.heap_setCell _ ⟨w.heap.size, 4, none⟩ _ _ hb
            have h7 : Below w.heap.size wr (wr.setCell ⟨w.heap.size, 4, none⟩ (.slice p' nts cap')) := (Below.refl _ wr).setCell (p := ⟨w.heap.size, 4, none⟩) (Nat.le_refl _) _
            obtain ⟨V, hV, m0, m1, m2, m3, m4, h4, h5⟩ := put5b (W := wr.setCell ⟨w.heap.size, 4, none⟩ (.slice p' nts cap')) ((h6 (w.heap.size + 1) (by omega)).trans HBR.out) (.int .i64 k1) (.int .i64 o1) (.string (sB n1)) (.int .i64 v1) (.slice p' nts cap')
            rw [hV]
            have hs0 := HW.out.size
            have hs1 := HWX.out.size
            have hl1 := HL1.out
            refine bodyPost_ret (v := .agg #[.int .i64 k1, .int .i64 o1, .string (sB n1), .int .i64 v1, .slice p' nts cap']) (by simp [results, Tryd.f47, go_sem, m0, m1, m2, m3, m4, sB_nil]) rfl ⟨Below.trans (Below.trans (Ext.trans HWX.out HE.out) h7) (h4 _ (by omega)), p', cap', ?_, ?_⟩
            · rw [HRR.out]
              have hla : (e.args.map (mp foldOne)).length = nts := by rw [List.length_map]; exact HTS.out
              show _ = Ending.returned (.agg #[.int .i64 k1, .int .i64 o1, sV n1, .int .i64 v1, .slice p' (e.args.map (mp foldOne)).length cap'])
              rw [hla]
            · rw [HRR.out]
              refine HD.out V (fun b hb hl => ?_)
              have hne : b ≠ w.heap.size ∧ b ≠ w.heap.size + 1 := by omega
              rw [h5 b hne.2, h6 b hne.1]
      | true =>
        have hg3 : (t1 == 1) = false := by rcases hc with h | h; · rw [hg2] at h; cases h
                                           · exact h
        clear hc hg0
        have hl1 := HL1.out
        go_wp2
        go_loopw [7, 8] (fun u i wr => ∃ rj v, v = u ∧ rj.length ≤ nts ∧ i = .int .i64 ((rj.length : Nat) : Int) ∧ RowE w1.heap.size v rj wr ∧ AppInv (mp foldOne) w₀ w1 e.args v rj wr ∧ Ext w1 wr) (fun _ i _ => nts - (intOf i).toNat)
        case atStart => exact ⟨[], _, rfl, Nat.zero_le _, rfl, RowE.empty _ _ (Nat.le_refl _), AppInv.start, (Below.refl _ w1).alloc (Nat.le_refl _) _⟩
        case round =>
          obtain ⟨rj, v, hvu, hj, rfl, hr, hI, hE⟩ := hrel
          subst hvu
          have hbe := (hE.below.block _ (lt_of_block HBX0.out)).trans HBX0.out
          have hbr := (hE.below.block _ (lt_of_block HBX1.out)).trans HBX1.out
          obtain ⟨d0, d1, d2, d3, d4, f0⟩ := box5 hbe
          have hEw := Ext.trans HW.out (Ext.trans HWX.out hE)
          by_cases hlt : rj.length < nts
          · have hjt : rj.length < e.args.length := by rw [HTS.out]; exact hlt
            obtain ⟨b, off, q2, dd2, rfl, hcs, hA1⟩ := HR.out.get rj.length hjt
            rw [Nat.zero_add] at hcs
            obtain ⟨c0, c1, c2, c3, c4⟩ := hcs.below hEw
            have D := Lib.hid (show Calls _ _ #[.agg #[.int .i64 (e.args[rj.length]).kind, .int .i64 (e.args[rj.length]).op, sV (e.args[rj.length]).name, .int .i64 (e.args[rj.length]).value, .slice q2 (e.args[rj.length]).args.length dd2]] _ _ from IH.out e.args[rj.length] (List.getElem_mem hjt) q2 dd2 hA1 wr hEw)
            obtain ⟨T, hT⟩ : ∃ T, mp foldOne e.args[rj.length] = T := ⟨_, rfl⟩
            rw [hT] at D
            have HT1 := Lib.hid hT
            have HRO := Lib.hid hr
            have HI := Lib.hid hI
            have HE := Lib.hid hE
            clear hT hr hI hE hbe hbr hcs hA1 hEw
            generalize (e.args[rj.length]).kind = k2 at *
            generalize (e.args[rj.length]).op = o2 at *
            generalize (e.args[rj.length]).name = n2 at *
            generalize (e.args[rj.length]).value = v2' at *
            generalize (e.args[rj.length]).args.length = l2 at *
            go_wp2_with fail
            refine D.out.mono ?_
            clear D
            rintro _ w4 ⟨hE4, q3, d3', rfl, hA3⟩
            unfold Ex.val
            have HA3 := Lib.hid hA3
            have HE4 := Lib.hid hE4
            have hsz : w1.heap.size ≤ w4.heap.size := Nat.le_trans HE.out.size hE4.size
            have hr4 := HRO.out.ext hE4
            have HR4 := Lib.hid hr4
            clear hE4 hA3 hr4
            go_wp2_with (at_builtin; go_loud (refine wp_appE (by rfl) _ _ (by rfl) (by rfl) w1.heap.size v rj (by rfl) w4 HR4.out (T, q3, d3') (by rfl) (by omega) hsz ?_); intro v' w5 hrow5 hbel5 hkb5)
            have HROW5 := Lib.hid hrow5
            have HBEL5 := Lib.hid hbel5
            have HKB5 := Lib.hid hkb5
            clear hrow5 hbel5 hkb5
            go_wp2
            refine ⟨?_, ?_⟩
            · have hgl := World.ownsRow.lt HRO.out
              have hs0 := HW.out.size
              have hs1 := HWX.out.size
              have hs2 := HE.out.size
              have hA4 : AtB (OffV w₀ w1 v) w4 q3 (mp foldOne e.args[rj.length]) := by
                rw [HT1.out]
                refine HA3.out.imp (fun b hb _ => ?_)
                rcases hb with hb | hb
                · exact ⟨.inl hb, fun e => by have := (hgl b e).1; omega⟩
                · exact ⟨.inr (by omega), fun e => by have := (hgl b e).2; omega⟩
              have hst := AppInv.step (v' := v') (W := w5) (HI.out.ext HE4.out) hjt q3 d3' HKB5.out hA4
              rw [HT1.out] at hst
              exact ⟨rj ++ [(T, q3, d3')], _, rfl, by simp; omega, by rw [List.length_append]; go_num, HROW5.out, hst, Below.trans (Ext.trans HE.out HE4.out) HBEL5.out⟩
            · simp [intOf]; omega
          · have hjn : rj.length = nts := by omega
            have hjl : rj.length = e.args.length := by rw [hjn, HTS.out]
            have hs0 := HW.out.size
            have hs1 := HWX.out.size
            obtain ⟨p', cap', hv', hdone⟩ := AppInv.done (S := fun b => b < w₀.heap.size ∨ w.heap.size ≤ b) hI hjl hr HFit.out (fun b hb => .inr (by omega)) (fun b hb => by omega)
            rw [HTS.out] at hv'
            subst hv'
            obtain ⟨g0, g1, g2, g3, g4, f1⟩ := box5 hbr
            have HE := Lib.hid hE
            have HBE := Lib.hid hbe
            have HBR := Lib.hid hbr
            have HD := Lib.hid hdone
            clear hr hI hE hbe hbr hdone hjl hjn hs0 hs1 hEw
            go_wp2
            have h6 : ∀ b, b ≠ w.heap.size → (wr.setCell ⟨w.heap.size, 4, none⟩ (.slice p' nts cap')).heap[b]? = wr.heap[b]? := fun b hb => Below.heap_setCell _ ⟨w.heap.size, 4, none⟩ _ _ hb
            have h7 : Below w.heap.size wr (wr.setCell ⟨w.heap.size, 4, none⟩ (.slice p' nts cap')) := (Below.refl _ wr).setCell (p := ⟨w.heap.size, 4, none⟩) (Nat.le_refl _) _
            obtain ⟨V, hV, m0, m1, m2, m3, m4, h4, h5⟩ := put5b (W := wr.setCell ⟨w.heap.size, 4, none⟩ (.slice p' nts cap')) ((h6 (w.heap.size + 1) (by omega)).trans HBR.out) (.int .i64 k1) (.int .i64 o1) (.string (sB n1)) (.int .i64 v1) (.slice p' nts cap')
            rw [hV]
            have hs0 := HW.out.size
            have hs1 := HWX.out.size
            have hl1 := HL1.out
            refine bodyPost_ret (v := .agg #[.int .i64 k1, .int .i64 o1, .string (sB n1), .int .i64 v1, .slice p' nts cap']) (by simp [results, Tryd.f47, go_sem, m0, m1, m2, m3, m4, sB_nil]) rfl ⟨Below.trans (Below.trans (Ext.trans HWX.out HE.out) h7) (h4 _ (by omega)), p', cap', ?_, ?_⟩
            · rw [HRR.out]
              have hla : (e.args.map (mp foldOne)).length = nts := by rw [List.length_map]; exact HTS.out
              show _ = Ending.returned (.agg #[.int .i64 k1, .int .i64 o1, sV n1, .int .i64 v1, .slice p' (e.args.map (mp foldOne)).length cap'])
              rw [hla]
            · rw [HRR.out]
              refine HD.out V (fun b hb hl => ?_)
              have hne : b ≠ w.heap.size ∧ b ≠ w.heap.size + 1 := by omega
              rw [h5 b hne.2, h6 b hne.1]

end Go.Proofs.YtgkalcboklhdgaaDoor

namespace Go.Proofs.YtgkalcboklhdgaaDoor
open Go.RowKit
set_option linter.unusedVariables false
set_option linter.unusedSimpArgs false
open Ex

/-- the empty expression -/
def exZ : Ex := .mk 0 0 [] 0 []
theorem exZ_fits : fits exZ := by
  refine ⟨⟨by show _ ≤ (0 : Int); omega, by show (0 : Int) ≤ _; omega⟩, ⟨by show _ ≤ (0 : Int); omega, by show (0 : Int) ≤ _; omega⟩, by show ([] : List UInt8).length ≤ _; simp, ⟨by show _ ≤ (0 : Int); omega, by show (0 : Int) ≤ _; omega⟩, by show ([] : List Ex).length ≤ _; simp⟩
theorem exZ_at (w : World) (p : Option Addr) : Ex.At w p exZ := ⟨exZ_fits, trivial⟩
/-- what Fold returns -/
def fdR (e : Ex) : Ex × Int := if e.chk ≠ 0 then (exZ, e.chk) else (mp foldOne e, 0)

theorem Fold1_one (w₀ : World) : OneFn foldOne w₀ (fun _ => True) 44 #[] (fun e => e.fe = 0) where
  ent := enters_fn Tryd.func44 (by kernel_rfl) rfl
  down := fun k o n v ts h t ht => by obtain ⟨j, hj, rfl⟩ := List.getElem_of_mem ht; exact fes_get (fe_mk h).2 j hj
  keep := fun _ _ h _ => h
  run := fun e p c W hW _ hA hfe => (Fold1_any e hfe p c W (hA.below hW)).mono fun r w' ⟨h1, q, d, h2, h3⟩ => ⟨h1, lit (cst e).1, q, d, by
    rw [h2]; unfold foldOne; cases (cst e).2 <;> rfl, fun y hy => by
    unfold foldOne at hy
    cases hb : (cst e).2 with
    | false => rw [hb] at hy; cases hy
    | true => rw [hb] at hy; cases hy; exact ⟨rfl, h3.imp fun b hb _ => .inr hb⟩⟩
theorem AtB.size {S : Nat → Prop} {w : World} {p : Option Addr} {e : Ex} (h : AtB S w p e) : Ex.At w p e := h.at

set_option maxHeartbeats 2000000 in
theorem Fold_of (e : Ex) (p : Option Addr) (c : Nat) (w : World) (hA : Ex.At w p e) :
    Calls Tryd.prog 23 #[e.val p c] w fun r w' => Ext w w' ∧ ∃ q d, r = .returned (.tuple #[(fdR e).1.val q d, .int .i64 (fdR e).2]) ∧ Ex.At w' q (fdR e).1 := by
  have C1 := Lib.hid (fun W (h : Ext w W) => show Gives _ _ #[.agg #[.int .i64 e.kind, .int .i64 e.op, sV e.name, .int .i64 e.value, .slice p e.args.length c]] _ _ from Check_any e p c W (hA.below h))
  have C2 := Lib.hid (fun (h0 : e.fe = 0) W (h : Ext w W) => show Calls Tryd.prog 43 #[.agg #[.int .i64 e.kind, .int .i64 e.op, sV e.name, .int .i64 e.value, .slice p e.args.length c], .func (.func 44) #[] #[]] W _ from mapped_any (Fold1_one w) e.size e (Nat.le_refl _) p c hA h0 W h trivial)
  have HZ := Lib.hid (fun h => (chk_zero (e := e) h).2.2)
  have HT := Lib.hid (show fdR e = if e.chk ≠ 0 then (exZ, e.chk) else (mp foldOne e, 0) from rfl)
  generalize fdR e = r at *
  generalize mp foldOne e = M at *
  have hv : e.val p c = .agg #[.int .i64 e.kind, .int .i64 e.op, sV e.name, .int .i64 e.value, .slice p e.args.length c] := rfl
  rw [hv]
  clear hv hA
  generalize e.kind = k1 at *
  generalize e.op = o1 at *
  generalize e.name = n1 at *
  generalize e.value = v1 at *
  generalize e.args.length = l1 at *
  generalize e.chk = f1 at *
  obtain ⟨hb0, hb1, hE0⟩ := two_boxes w (.int .i64 k1) (.int .i64 o1) (sV n1) (.int .i64 v1) (.slice p l1 c) (.int .i64 0) (.int .i64 0) (.string { data := #[] }) (.int .i64 0) (.slice none 0 0) tEx
  have HB0 := Lib.hid hb0
  have HB1 := Lib.hid hb1
  have HE0 := Lib.hid hE0
  have D1 := Lib.hid (C1.out _ hE0)
  clear hb0 hb1 hE0 C1
  by_cases h1 : f1 = 0
  · subst h1
    have hfe := HZ.out rfl
    have C2' := Lib.hid (C2.out hfe)
    have HR := Lib.hid (show r = (M, 0) by rw [HT.out]; rfl)
    clear C2 HZ hfe HT
    go_enter Tryd.func23, Tryd.ntmps23
    go_wp2_with fail
    refine D1.out.mono ?_
    intro w1 hB1
    replace hB1 : Ext _ w1 := hB1
    have HB0' := Lib.hid ((hB1.below.block _ (lt_of_block HB0.out)).trans HB0.out)
    have HB1' := Lib.hid ((hB1.below.block _ (lt_of_block HB1.out)).trans HB1.out)
    have HW1 := Lib.hid (Ext.trans HE0.out hB1)
    obtain ⟨d0, d1, d2, d3, d4, f0⟩ := box5 HB0'.out
    clear hB1 D1 HE0 HB0 HB1
    go_wp2_with fail
    refine (C2'.out _ HW1.out).mono ?_
    rintro _ w2 ⟨hE2, q, d, rfl, hT⟩
    replace hE2 : Ext w1 w2 := hE2
    have hbr := (hE2.below.block _ (lt_of_block HB1'.out)).trans HB1'.out
    obtain ⟨e0, e1, e2, e3, e4, f1⟩ := box5 hbr
    have HBR := Lib.hid hbr
    have hl1 := lt_of_block HB1'.out
    have HTT := Lib.hid (hT.imp (S' := fun b => b < w.heap.size ∨ w.heap.size + 2 ≤ b) (fun b hb _ => by omega))
    have HW2 := Lib.hid (Ext.trans HW1.out hE2)
    clear hbr hT hE2 C2' HB0' HB1' d0 d1 d2 d3 d4 f0
    unfold Ex.val
    go_wp2
    obtain ⟨V, hV, g0, g1, g2, g3, g4, h4, h5⟩ := put5b HBR.out (.int .i64 M.kind) (.int .i64 M.op) (sV M.name) (.int .i64 M.value) (.slice q M.args.length d)
    rw [hV]
    refine bodyPost_ret (v := .tuple #[.agg #[.int .i64 M.kind, .int .i64 M.op, sV M.name, .int .i64 M.value, .slice q M.args.length d], .int .i64 0]) (by simp [results, Tryd.f23, go_sem, g0, g1, g2, g3, g4, sB_nil]) rfl ⟨Below.trans HW2.out (h4 _ (by omega)), q, d, by rw [HR.out]; rfl, by
      rw [HR.out]
      exact (HTT.out.keep (S' := fun _ => True) (fun b hb hb2 => ⟨trivial, h5 b (by omega)⟩)).at⟩
  · have hg1 : (f1 == 0) = false := by simpa using h1
    have hg2 : (f1 != 0) = true := by simpa using h1
    have HR := Lib.hid (show r = (exZ, f1) by rw [HT.out, if_pos h1])
    clear h1 HT C2 HZ
    go_enter Tryd.func23, Tryd.ntmps23
    go_wp2_with fail
    refine D1.out.mono ?_
    intro w1 hB1
    replace hB1 : Ext _ w1 := hB1
    have hbr := (hB1.below.block _ (lt_of_block HB1.out)).trans HB1.out
    have HW1 := Lib.hid (Ext.trans HE0.out hB1)
    obtain ⟨d0, d1, d2, d3, d4, f0⟩ := box5 hbr
    have HBR := Lib.hid hbr
    clear hB1 D1 HE0 HB0 HB1 hbr
    go_wp2
    obtain ⟨V, hV, g0, g1, g2, g3, g4, h4, h5⟩ := put5b HBR.out (.int .i64 0) (.int .i64 0) (.string { data := #[] }) (.int .i64 0) (.slice none 0 0)
    rw [hV]
    refine bodyPost_ret (v := .tuple #[.agg #[.int .i64 0, .int .i64 0, .string { data := #[] }, .int .i64 0, .slice none 0 0], .int .i64 f1]) (by simp [results, Tryd.f23, go_sem, g0, g1, g2, g3, g4, sB_nil]) rfl ⟨Below.trans HW1.out (h4 _ (by omega)), none, 0, by rw [HR.out, sV_nil]; rfl, by
      rw [HR.out]; exact exZ_at _ _⟩

set_option maxHeartbeats 2000000 in
theorem refFold_of (e : Ex) (p : Option Addr) (c : Nat) (w : World) (hA : Ex.At w p e) :
    Calls Tryd.prog 24 #[e.val p c] w fun r w' => Ext w w' ∧ ∃ q d, r = .returned (.tuple #[(fdR e).1.val q d, .int .i64 (fdR e).2]) ∧ Ex.At w' q (fdR e).1 := by
  have C1 := Lib.hid (fun W (h : Ext w W) => show Gives _ _ #[.agg #[.int .i64 e.kind, .int .i64 e.op, sV e.name, .int .i64 e.value, .slice p e.args.length c]] _ _ from refChk_any e p c W (hA.below h))
  have C2 := Lib.hid (fun (h0 : e.fe = 0) W (h : Ext w W) => show Calls Tryd.prog 47 #[.agg #[.int .i64 e.kind, .int .i64 e.op, sV e.name, .int .i64 e.value, .slice p e.args.length c]] W _ from refFold_any w e.size e (Nat.le_refl _) h0 p c hA W h)
  have HZ := Lib.hid (fun h => (chk_zero (e := e) h).2.2)
  have HT := Lib.hid (show fdR e = if e.chk ≠ 0 then (exZ, e.chk) else (mp foldOne e, 0) from rfl)
  generalize fdR e = r at *
  generalize mp foldOne e = M at *
  have hv : e.val p c = .agg #[.int .i64 e.kind, .int .i64 e.op, sV e.name, .int .i64 e.value, .slice p e.args.length c] := rfl
  rw [hv]
  clear hv hA
  generalize e.kind = k1 at *
  generalize e.op = o1 at *
  generalize e.name = n1 at *
  generalize e.value = v1 at *
  generalize e.args.length = l1 at *
  generalize e.chk = f1 at *
  obtain ⟨hb0, hb1, hE0⟩ := two_boxes w (.int .i64 k1) (.int .i64 o1) (sV n1) (.int .i64 v1) (.slice p l1 c) (.int .i64 0) (.int .i64 0) (.string { data := #[] }) (.int .i64 0) (.slice none 0 0) tEx
  have HB0 := Lib.hid hb0
  have HB1 := Lib.hid hb1
  have HE0 := Lib.hid hE0
  have D1 := Lib.hid (C1.out _ hE0)
  clear hb0 hb1 hE0 C1
  by_cases h1 : f1 = 0
  · subst h1
    have hfe := HZ.out rfl
    have C2' := Lib.hid (C2.out hfe)
    have HR := Lib.hid (show r = (M, 0) by rw [HT.out]; rfl)
    clear C2 HZ hfe HT
    go_enter Tryd.func24, Tryd.ntmps24
    go_wp2_with fail
    refine D1.out.mono ?_
    intro w1 hB1
    replace hB1 : Ext _ w1 := hB1
    have HB0' := Lib.hid ((hB1.below.block _ (lt_of_block HB0.out)).trans HB0.out)
    have HB1' := Lib.hid ((hB1.below.block _ (lt_of_block HB1.out)).trans HB1.out)
    have HW1 := Lib.hid (Ext.trans HE0.out hB1)
    obtain ⟨d0, d1, d2, d3, d4, f0⟩ := box5 HB0'.out
    clear hB1 D1 HE0 HB0 HB1
    go_wp2_with fail
    refine (C2'.out _ HW1.out).mono ?_
    rintro _ w2 ⟨hE2, q, d, rfl, hT⟩
    replace hE2 : Ext w1 w2 := hE2
    have hbr := (hE2.below.block _ (lt_of_block HB1'.out)).trans HB1'.out
    obtain ⟨e0, e1, e2, e3, e4, f1⟩ := box5 hbr
    have HBR := Lib.hid hbr
    have hl1 := lt_of_block HB1'.out
    have HTT := Lib.hid (hT.imp (S' := fun b => b < w.heap.size ∨ w.heap.size + 2 ≤ b) (fun b hb _ => by omega))
    have HW2 := Lib.hid (Ext.trans HW1.out hE2)
    clear hbr hT hE2 C2' HB0' HB1' d0 d1 d2 d3 d4 f0
    unfold Ex.val
    go_wp2
    obtain ⟨V, hV, g0, g1, g2, g3, g4, h4, h5⟩ := put5b HBR.out (.int .i64 M.kind) (.int .i64 M.op) (sV M.name) (.int .i64 M.value) (.slice q M.args.length d)
    rw [hV]
    refine bodyPost_ret (v := .tuple #[.agg #[.int .i64 M.kind, .int .i64 M.op, sV M.name, .int .i64 M.value, .slice q M.args.length d], .int .i64 0]) (by simp [results, Tryd.f24, go_sem, g0, g1, g2, g3, g4, sB_nil]) rfl ⟨Below.trans HW2.out (h4 _ (by omega)), q, d, by rw [HR.out]; rfl, by
      rw [HR.out]
      exact (HTT.out.keep (S' := fun _ => True) (fun b hb hb2 => ⟨trivial, h5 b (by omega)⟩)).at⟩
  · have hg1 : (f1 == 0) = false := by simpa using h1
    have hg2 : (f1 != 0) = true := by simpa using h1
    have HR := Lib.hid (show r = (exZ, f1) by rw [HT.out, if_pos h1])
    clear h1 HT C2 HZ
    go_enter Tryd.func24, Tryd.ntmps24
    go_wp2_with fail
    refine D1.out.mono ?_
    intro w1 hB1
    replace hB1 : Ext _ w1 := hB1
    have hbr := (hB1.below.block _ (lt_of_block HB1.out)).trans HB1.out
    have HW1 := Lib.hid (Ext.trans HE0.out hB1)
    obtain ⟨d0, d1, d2, d3, d4, f0⟩ := box5 hbr
    have HBR := Lib.hid hbr
    clear hB1 D1 HE0 HB0 HB1 hbr
    go_wp2
    obtain ⟨V, hV, g0, g1, g2, g3, g4, h4, h5⟩ := put5b HBR.out (.int .i64 0) (.int .i64 0) (.string { data := #[] }) (.int .i64 0) (.slice none 0 0)
    rw [hV]
    refine bodyPost_ret (v := .tuple #[.agg #[.int .i64 0, .int .i64 0, .string { data := #[] }, .int .i64 0, .slice none 0 0], .int .i64 f1]) (by simp [results, Tryd.f24, go_sem, g0, g1, g2, g3, g4, sB_nil]) rfl ⟨Below.trans HW1.out (h4 _ (by omega)), none, 0, by rw [HR.out, sV_nil]; rfl, by
      rw [HR.out]; exact exZ_at _ _⟩

end Go.Proofs.YtgkalcboklhdgaaDoor

namespace Go.Proofs.YtgkalcboklhdgaaDoor
open Go.RowKit
set_option linter.unusedVariables false
set_option linter.unusedSimpArgs false
open Ex

section
variable {ops : Array Oper} {rest : List Oper} {o : Oper} {a : Act} {Q : Exit → Act → World → Prop}
/-- append of an expression that lies in a block of its own -/
theorem wp_appG (hgd : o.guard = none) (s x : Operand) (ho : o.op = .call { callee := .builtin .append, args := #[s, x], argTypes := #[22, 22] }) (hty : o.type = 22)
    (base : Nat) (v : Value) (rs : List XE) (hs : a.eval s = v) (W : World) (h : RowE base v rs W) (r : XE) (g : Nat) (hx : a.eval x = .slice (some ⟨g, 0, none⟩) 1 1)
    (hg : W.heap[g]? = some (.cells #[.int .i64 r.1.kind, .int .i64 r.1.op, sV r.1.name, .int .i64 r.1.value, .slice r.2.1 r.1.args.length r.2.2] tEx (0, 0))) (hlen : rs.length ≤ 2199023255488) (hbase : base ≤ W.heap.size)
    (hK : ∀ v' w', RowE base v' (rs ++ [r]) w' → Below base W w' → (∀ b, b < W.heap.size → v.ownBlock ≠ some b → w'.heap[b]? = W.heap[b]? ∧ v'.ownBlock ≠ some b) → wpList Tryd.prog ops Q rest (a.put o.dst v') w') : wpList Tryd.prog ops Q (o :: rest) a W := by
  have hcell : ∀ j u, (ec r)[j]? = some u → W.cell? ((⟨g, 0, none⟩ : Addr).add j) = some u := by
    intro j u hu
    have e : (⟨g, 0, none⟩ : Addr).add j = ⟨g, j, none⟩ := by unfold Addr.add; split <;> simp_all
    rw [e]
    exact cell_of hg (by simpa [ec] using hu)
  obtain ⟨v', w', hr, h2, h3, h4⟩ := app_where h ⟨g, 0, none⟩ r hcell hlen hbase
  refine wpList_plain hgd fun K hKK => ?_
  unfold Oper.wp
  simp only [execOp, ho, hty, resolve, invoke, builtin, Sem.run_bind, Sem.run_pure, Result.andThen_ok, List.map_toArray, List.map_cons, List.map_nil, hs, hx, hr]
  refine hKK _ _ (hK v' w' h2 ?_ (fun b hb1 hb2 => ⟨?_, fun e => ?_⟩))
  · exact (Below.refl base W).grown h3 hbase (fun k e => (World.ownsRow.lt h k e).1)
  · exact h3.block b hb1 (fun e => hb2 e.symm)
  · rcases h4 b e with h5 | h5
    · exact hb2 h5
    · omega
end

/-- what Substitute makes of a part -/
def subOne (m : List UInt8) (r : Ex) (e : Ex) : Option Ex := if e.kind = 2 ∧ e.name = m then some r else none
/-- three boxes -/
theorem three_boxes (w : World) (a0 a1 a2 a3 a4 b0 b1 b2 b3 b4 c0 c1 c2 c3 c4 : Value) (T : TypeId) :
    (((w.alloc (.cells #[a0, a1, a2, a3, a4] T)).alloc (.cells #[b0, b1, b2, b3, b4] T)).alloc (.cells #[c0, c1, c2, c3, c4] T)).heap[w.heap.size]? = some (.cells #[a0, a1, a2, a3, a4] T (0, 0)) ∧
    (((w.alloc (.cells #[a0, a1, a2, a3, a4] T)).alloc (.cells #[b0, b1, b2, b3, b4] T)).alloc (.cells #[c0, c1, c2, c3, c4] T)).heap[w.heap.size + 1]? = some (.cells #[b0, b1, b2, b3, b4] T (0, 0)) ∧
    (((w.alloc (.cells #[a0, a1, a2, a3, a4] T)).alloc (.cells #[b0, b1, b2, b3, b4] T)).alloc (.cells #[c0, c1, c2, c3, c4] T)).heap[w.heap.size + 2]? = some (.cells #[c0, c1, c2, c3, c4] T (0, 0)) ∧
    Ext w (((w.alloc (.cells #[a0, a1, a2, a3, a4] T)).alloc (.cells #[b0, b1, b2, b3, b4] T)).alloc (.cells #[c0, c1, c2, c3, c4] T)) := by
  obtain ⟨h1, h2, h3⟩ := two_boxes w a0 a1 a2 a3 a4 b0 b1 b2 b3 b4 T
  refine ⟨(Below.heap_alloc _ _ w.heap.size (by simp; omega)).trans h1, (Below.heap_alloc _ _ (w.heap.size + 1) (by simp)).trans h2, ?_, h3.alloc (by simp; omega) _⟩
  have h := alloc_here ((w.alloc (.cells #[a0, a1, a2, a3, a4] T)).alloc (.cells #[b0, b1, b2, b3, b4] T)) (.cells #[c0, c1, c2, c3, c4] T)
  rw [World.size_alloc, World.size_alloc] at h; exact h

/-- the values of the region that replaces an element -/
def rpR (v : Value) (n b off j : Nat) (p : Option Addr) (nts c : Nat) (t rr : Value) (m : List UInt8) (S : Nat → Prop) (T : Ex) : Nat → (Nat → Value) → World → Prop
  | 0, s, _ => s 0 = v
  | 1, s, _ => s 1 = .pointer (some ⟨n, 4, none⟩)
  | 2, s, _ => s 2 = .slice p nts c
  | 3, s, _ => s 3 = .int .i64 (j : Int)
  | 4, s, _ => s 4 = .pointer (some ⟨b, off + j * 5, none⟩)
  | 5, s, _ => s 5 = t
  | 6, s, _ => s 6 = sV m
  | 7, s, _ => s 7 = rr
  | 8, s, W => ∃ q d, s 8 = T.val q d ∧ AtB S W q T
  | 9, s, W => ∃ g q d, s 9 = .slice (some ⟨g, 0, none⟩) 1 1 ∧ W.heap[g]? = some (.cells #[.int .i64 T.kind, .int .i64 T.op, sV T.name, .int .i64 T.value, .slice q T.args.length d] tEx (0, 0)) ∧ AtB S W q T
  | _, _, _ => True
theorem rpR_st (v : Value) (n b off j : Nat) (p : Option Addr) (nts c : Nat) (t rr : Value) (m : List UInt8) (S : Nat → Prop) (T : Ex) : ∀ i s s' W W', rpR v n b off j p nts c t rr m S T i s W → (∀ k ∈ [i], s' k = s k) → Ext W W' → rpR v n b off j p nts c t rr m S T i s' W' := by
  intro i s s' W W' h hs hE
  have hs := hs i (by simp)
  match i, h, hs with
  | 0, h, hs => exact hs.trans h
  | 1, h, hs => exact hs.trans h
  | 2, h, hs => exact hs.trans h
  | 3, h, hs => exact hs.trans h
  | 4, h, hs => exact hs.trans h
  | 5, h, hs => exact hs.trans h
  | 6, h, hs => exact hs.trans h
  | 7, h, hs => exact hs.trans h
  | 8, ⟨q, d, h1, h2⟩, hs => exact ⟨q, d, hs.trans h1, h2.ext hE⟩
  | 9, ⟨g, q, d, h1, h2, h3⟩, hs => exact ⟨g, q, d, hs.trans h1, (hE.below.block g (lt_of_block h2)).trans h2, h3.ext hE⟩
  | i + 10, h, hs => exact trivial
theorem ten' {α : Type} (fs : List α) (h : fs.length = 10) : ∃ a b c d e f g i j k, fs = [a, b, c, d, e, f, g, i, j, k] := by
  match fs, h with
  | [a, b, c, d, e, f, g, i, j, k], _ => exact ⟨a, b, c, d, e, f, g, i, j, k, rfl⟩

set_option maxRecDepth 100000 in
set_option maxHeartbeats 4000000 in
theorem replaced_any (w₀ : World) (m : List UInt8) (r : Ex) (pr : Option Addr) (cr : Nat) (hr0 : Ex.At w₀ pr r) : ∀ (n : Nat) (e : Ex), e.size ≤ n → ∀ (p : Option Addr) (c : Nat), Ex.At w₀ p e → ∀ w, Ext w₀ w →
    Calls Tryd.prog 50 #[e.val p c, sV m, r.val pr cr] w fun x w' => Ext w w' ∧ ∃ q d, x = .returned ((mp (subOne m r) e).val q d) ∧ AtB (fun b => b < w₀.heap.size ∨ w.heap.size ≤ b) w' q (mp (subOne m r) e) := by
  have HR0 := Lib.hid (show AtB (· < w₀.heap.size) w₀ pr r from hr0.toB)
  have hvr : r.val pr cr = .agg #[.int .i64 r.kind, .int .i64 r.op, sV r.name, .int .i64 r.value, .slice pr r.args.length cr] := rfl
  rw [hvr]
  clear hr0 hvr
  intro n
  induction n with
  | zero => intro e he; have := e.size_pos; omega
  | succ n ih =>
    intro e he p c hA w hw
    have hHM : mp (subOne m r) e = if e.kind = 2 ∧ e.name = m then r else .mk e.kind e.op e.name e.value (e.args.map (mp (subOne m r))) := by
      obtain ⟨k, o, nm, x, ts⟩ := e
      simp only [mp, mps_map]
      unfold subOne
      by_cases hb : (Ex.mk k o nm x ts).kind = 2 ∧ (Ex.mk k o nm x ts).name = m
      · rw [if_pos hb, if_pos hb]
      · rw [if_neg hb, if_neg hb]; rfl
    have hv : e.val p c = .agg #[.int .i64 e.kind, .int .i64 e.op, sV e.name, .int .i64 e.value, .slice p e.args.length c] := rfl
    rw [hv]
    have IH := Lib.hid (fun t (ht : t ∈ e.args) => ih t (by obtain ⟨j, hj, rfl⟩ := List.getElem_of_mem ht; have h1 := size_get e.args j hj; have h2 := size_args e; omega))
    have HR := Lib.hid (show Ex.AtL w₀ p 0 e.args from hA.row)
    have HFit := Lib.hid (show fits (.mk e.kind e.op e.name e.value e.args) by cases e; exact hA.fit)
    have hl : e.args.length ≤ 2199023255488 := HFit.out.2.2.2.2
    clear ih hv he hA
    generalize hff : mp (subOne m r) = ff at *
    generalize ff e = R at *
    have HM := Lib.hid hHM
    have HW := Lib.hid hw
    clear hHM hw hff
    generalize hts : e.args.length = nts at *
    have HTS := Lib.hid hts
    clear hts
    generalize e.kind = k1 at *
    generalize e.op = o1 at *
    generalize e.name = n1 at *
    generalize e.value = v1 at *
    obtain ⟨hb0, hb1, hb2, hE0⟩ := three_boxes w (.int .i64 k1) (.int .i64 o1) (sV n1) (.int .i64 v1) (.slice p nts c) (.int .i64 r.kind) (.int .i64 r.op) (sV r.name) (.int .i64 r.value) (.slice pr r.args.length cr) (.int .i64 0) (.int .i64 0) (.string { data := #[] }) (.int .i64 0) (.slice none 0 0) tEx
    obtain ⟨d0, d1, d2, d3, d4, f0⟩ := box5 hb0
    have HBX0 := Lib.hid hb0
    have HBX1 := Lib.hid hb1
    have HBX2 := Lib.hid hb2
    have HE0 := Lib.hid hE0
    clear hb0 hb1 hb2 hE0
    by_cases hm : k1 = 2 ∧ n1 = m
    · obtain ⟨rfl, rfl⟩ := hm
      have HRR := Lib.hid (show R = r by rw [HM.out, if_pos ⟨rfl, rfl⟩])
      obtain ⟨y0, y1, y2, y3, y4, f1⟩ := box5 HBX1.out
      obtain ⟨z0, z1, z2, z3, z4, f2⟩ := box5 HBX2.out
      obtain ⟨_, _, hz2, hzE⟩ := three_boxes w (.int .i64 2) (.int .i64 o1) (sV n1) (.int .i64 v1) (.slice p nts c) (.int .i64 r.kind) (.int .i64 r.op) (sV r.name) (.int .i64 r.value) (.slice pr r.args.length cr) (.int .i64 r.kind) (.int .i64 r.op) (.string (sB r.name)) (.int .i64 r.value) (.slice pr r.args.length cr) tEx
      have HZ := Lib.hid (And.intro hz2 hzE)
      clear HM hz2 hzE
      go_enter Tryd.func50, Tryd.ntmps50
      go_wp2
      obtain ⟨hz2, hzE⟩ := HZ.out
      generalize (((w.alloc (.cells #[.int .i64 2, .int .i64 o1, sV n1, .int .i64 v1, .slice p nts c] tEx)).alloc (.cells #[.int .i64 r.kind, .int .i64 r.op, sV r.name, .int .i64 r.value, .slice pr r.args.length cr] tEx)).alloc (.cells #[.int .i64 r.kind, .int .i64 r.op, .string (sB r.name), .int .i64 r.value, .slice pr r.args.length cr] tEx)) = V at *
      obtain ⟨m0, m1, m2, m3, m4, _⟩ := box5 hz2
      refine bodyPost_ret (v := .agg #[.int .i64 r.kind, .int .i64 r.op, .string (sB r.name), .int .i64 r.value, .slice pr r.args.length cr]) (by simp [results, Tryd.f50, go_sem, m0, m1, m2, m3, m4, sB_nil]) rfl ⟨hzE, pr, cr, by rw [HRR.out]; rfl, by
        rw [HRR.out]
        exact ((HR0.out.ext HW.out).ext hzE).imp (fun b hb _ => .inl hb)⟩
    · have HRR := Lib.hid (show R = .mk k1 o1 n1 v1 (e.args.map ff) by rw [HM.out, if_neg hm])
      clear HM
      by_cases hk : k1 = 2
      · have hn : (n1 == m) = false := by simpa using fun h => hm ⟨hk, h⟩
        subst hk
        clear hm
        go_enter Tryd.func50, Tryd.ntmps50
        go_wp2
        clear d0 d1 d2 d3 d4 f0
        have HWX := HE0
        have HS1 := Lib.hid (show ((((w.alloc (.cells #[.int .i64 2, .int .i64 o1, sV n1, .int .i64 v1, .slice p nts c] tEx)).alloc (.cells #[.int .i64 r.kind, .int .i64 r.op, sV r.name, .int .i64 r.value, .slice pr r.args.length cr] tEx)).alloc (.cells #[.int .i64 0, .int .i64 0, .string { data := #[] }, .int .i64 0, .slice none 0 0] tEx)).heap.size = w.heap.size + 1 + 1 + 1) by simp)
        have HL1 := Lib.hid (lt_of_block HBX2.out)
        generalize (((w.alloc (.cells #[.int .i64 2, .int .i64 o1, sV n1, .int .i64 v1, .slice p nts c] tEx)).alloc (.cells #[.int .i64 r.kind, .int .i64 r.op, sV r.name, .int .i64 r.value, .slice pr r.args.length cr] tEx)).alloc (.cells #[.int .i64 0, .int .i64 0, .string { data := #[] }, .int .i64 0, .slice none 0 0] tEx)) = w1 at *
        have hl1 := HL1.out
        go_loopw [7, 8] (fun u i wr => ∃ rj v, v = u ∧ rj.length ≤ nts ∧ i = .int .i64 ((rj.length : Nat) : Int) ∧ RowE w1.heap.size v rj wr ∧ AppInv (ff) w₀ w1 e.args v rj wr ∧ Ext w1 wr) (fun _ i _ => nts - (intOf i).toNat)
        case atStart => exact ⟨[], _, rfl, Nat.zero_le _, rfl, (by rw [← HS1.out]; exact RowE.empty _ _ (Nat.le_refl _)), AppInv.start, (Below.refl _ w1).alloc (Nat.le_refl _) _⟩
        case round =>
          obtain ⟨rj, v, hvu, hj, rfl, hr, hI, hE⟩ := hrel
          subst hvu
          have hbe := (hE.below.block _ (lt_of_block HBX0.out)).trans HBX0.out
          have hbr := (hE.below.block _ (lt_of_block HBX2.out)).trans HBX2.out
          obtain ⟨d0, d1, d2, d3, d4, f0⟩ := box5 hbe
          have hEw := Ext.trans HW.out (Ext.trans HWX.out hE)
          by_cases hlt : rj.length < nts
          · have hjt : rj.length < e.args.length := by rw [HTS.out]; exact hlt
            obtain ⟨b, off, q2, dd2, rfl, hcs, hA1⟩ := HR.out.get rj.length hjt
            rw [Nat.zero_add] at hcs
            obtain ⟨c0, c1, c2, c3, c4⟩ := hcs.below hEw
            have D := Lib.hid (fun W (h : Ext w₀ W) => show Calls _ _ #[.agg #[.int .i64 (e.args[rj.length]).kind, .int .i64 (e.args[rj.length]).op, sV (e.args[rj.length]).name, .int .i64 (e.args[rj.length]).value, .slice q2 (e.args[rj.length]).args.length dd2], _, _] _ _ from IH.out e.args[rj.length] (List.getElem_mem hjt) q2 dd2 hA1 W h)
            obtain ⟨T, hT⟩ : ∃ T, ff e.args[rj.length] = T := ⟨_, rfl⟩
            rw [hT] at D
            have HT1 := Lib.hid hT
            have HRO := Lib.hid hr
            have HI := Lib.hid hI
            have HE := Lib.hid hE
            have HCS := Lib.hid (fun W (h : Ext w₀ W) => show W.cell? ⟨b, off + rj.length * 5, none⟩ = some (.int .i64 (e.args[rj.length]).kind) ∧ W.cell? ⟨b, off + rj.length * 5 + 1, none⟩ = some (.int .i64 (e.args[rj.length]).op) ∧ W.cell? ⟨b, off + rj.length * 5 + 2, none⟩ = some (sV (e.args[rj.length]).name) ∧ W.cell? ⟨b, off + rj.length * 5 + 3, none⟩ = some (.int .i64 (e.args[rj.length]).value) ∧ W.cell? ⟨b, off + rj.length * 5 + 4, none⟩ = some (.slice q2 (e.args[rj.length]).args.length dd2) from hcs.below h)
            clear hcs
            have HEW := Lib.hid hEw
            have HBR0 := Lib.hid hbe
            have HBR1 := Lib.hid ((hE.below.block _ (lt_of_block HBX1.out)).trans HBX1.out)
            clear hT hr hI hE hbe hbr hA1 hEw
            generalize (e.args[rj.length]).kind = k2 at *
            generalize (e.args[rj.length]).op = o2 at *
            generalize (e.args[rj.length]).name = n2 at *
            generalize (e.args[rj.length]).value = v2' at *
            generalize (e.args[rj.length]).args.length = l2 at *
            go_wp2
            refine wp_region_tail (l1 := [_, _, _, _, _, _, _, _, _, _]) (l2 := [_, _]) (by kernel_rfl) Ext (fun W => Below.refl _ W) (fun W => show Below W.heap.size W { W with drawn := W.drawn + 1 } from ⟨rfl, rfl, rfl, Nat.le_refl _, fun _ _ => rfl⟩) Ext.trans (rpR v w.heap.size b off rj.length (some ⟨b, off, none⟩) nts c (.agg #[.int .i64 k2, .int .i64 o2, sV n2, .int .i64 v2', .slice q2 l2 dd2]) (.agg #[.int .i64 r.kind, .int .i64 r.op, sV r.name, .int .i64 r.value, .slice pr r.args.length cr]) m (fun b => b < w₀.heap.size ∨ wr.heap.size ≤ b) T) (fun i => [i]) (rpR_st _ _ _ _ _ _ _ _ _ _ _ _ _) (by kernel_rfl) (by kernel_rfl) (by kernel_rfl) 41 rfl (by kernel_rfl) (by kernel_rfl) ?_ ?_
            · intro i op ho a' W hA
              have hbx := (hA.rel.below.block _ (lt_of_block HBR0.out)).trans HBR0.out
              have hby := (hA.rel.below.block _ (lt_of_block HBR1.out)).trans HBR1.out
              obtain ⟨x0, x1, x2, x3, x4, f0⟩ := box5 hbx
              obtain ⟨y0, y1, y2, y3, y4, f1⟩ := box5 hby
              obtain ⟨c0, c1, c2, c3, c4⟩ := HCS.out W (Ext.trans HEW.out hA.rel)
              match i, ho with
              | 0, ho =>
                obtain rfl := Option.some.inj ho
                exact GoesG.move (.tmp 7) rfl rfl (Below.refl _ _) (fun s h1 h2 => (h1 rfl).trans (hA.keep 7 (by kernel_rfl)))
              | 1, ho =>
                obtain rfl := Option.some.inj ho
                have e1 : a'.eval (.tmp 3) = .pointer (some ⟨w.heap.size, 0, none⟩) := hA.keep 3 (by kernel_rfl)
                refine GoesG.value (.pointer (some ⟨w.heap.size, 4, none⟩)) rfl ?_ (Below.refl _ _) (fun s h1 h2 => h1 rfl)
                simp only [execOp, e1]
                simp [go_sem]
              | 2, ho =>
                obtain rfl := Option.some.inj ho
                have e1 : a'.eval (.tmp 28) = .pointer (some ⟨w.heap.size, 4, none⟩) := (sv_dst (l := _) rfl).symm.trans (hA.new 1 (by decide) (by kernel_rfl))
                refine GoesG.value (.slice (some ⟨b, off, none⟩) nts c) rfl ?_ (Below.refl _ _) (fun s h1 h2 => h1 rfl)
                simp only [execOp, e1]
                simp [go_sem, x4]
              | 3, ho =>
                obtain rfl := Option.some.inj ho
                exact GoesG.move (.tmp 8) rfl rfl (Below.refl _ _) (fun s h1 h2 => (h1 rfl).trans (hA.keep 8 (by kernel_rfl)))
              | 4, ho =>
                obtain rfl := Option.some.inj ho
                have e1 : a'.eval (.tmp 29) = .slice (some ⟨b, off, none⟩) nts c := (sv_dst (l := _) rfl).symm.trans (hA.new 2 (by decide) (by kernel_rfl))
                have e2 : a'.eval (.tmp 30) = .int .i64 (rj.length : Int) := (sv_dst (l := _) rfl).symm.trans (hA.new 3 (by decide) (by kernel_rfl))
                refine GoesG.value (.pointer (some ⟨b, off + rj.length * 5, none⟩)) rfl ?_ (Below.refl _ _) (fun s h1 h2 => h1 rfl)
                simp only [execOp, e1, e2]
                simp [go_sem, hlt]
              | 5, ho =>
                obtain rfl := Option.some.inj ho
                have e1 : a'.eval (.tmp 31) = .pointer (some ⟨b, off + rj.length * 5, none⟩) := (sv_dst (l := _) rfl).symm.trans (hA.new 4 (by decide) (by kernel_rfl))
                refine GoesG.value (.agg #[.int .i64 k2, .int .i64 o2, sV n2, .int .i64 v2', .slice q2 l2 dd2]) rfl ?_ (Below.refl _ _) (fun s h1 h2 => h1 rfl)
                simp only [execOp, e1]
                simp [go_sem, c0, c1, c2, c3, c4]
              | 6, ho =>
                obtain rfl := Option.some.inj ho
                exact GoesG.move (.tmp 1) rfl rfl (Below.refl _ _) (fun s h1 h2 => (h1 rfl).trans (hA.keep 1 (by kernel_rfl)))
              | 7, ho =>
                obtain rfl := Option.some.inj ho
                have e1 : a'.eval (.tmp 5) = .pointer (some ⟨w.heap.size + 1, 0, none⟩) := hA.keep 5 (by kernel_rfl)
                refine GoesG.value (.agg #[.int .i64 r.kind, .int .i64 r.op, sV r.name, .int .i64 r.value, .slice pr r.args.length cr]) rfl ?_ (Below.refl _ _) (fun s h1 h2 => h1 rfl)
                simp only [execOp, e1]
                simp [go_sem, y0, y1, y2, y3, y4]
              | 8, ho =>
                obtain rfl := Option.some.inj ho
                have e1 : a'.eval (.tmp 32) = .agg #[.int .i64 k2, .int .i64 o2, sV n2, .int .i64 v2', .slice q2 l2 dd2] := (sv_dst (l := _) rfl).symm.trans (hA.new 5 (by decide) (by kernel_rfl))
                have e2 : a'.eval (.tmp 33) = sV m := (sv_dst (l := _) rfl).symm.trans (hA.new 6 (by decide) (by kernel_rfl))
                have e3 : a'.eval (.tmp 34) = .agg #[.int .i64 r.kind, .int .i64 r.op, sV r.name, .int .i64 r.value, .slice pr r.args.length cr] := (sv_dst (l := _) rfl).symm.trans (hA.new 7 (by decide) (by kernel_rfl))
                refine GoesG.call 50 #[.agg #[.int .i64 k2, .int .i64 o2, sV n2, .int .i64 v2', .slice q2 l2 dd2], sV m, .agg #[.int .i64 r.kind, .int .i64 r.op, sV r.name, .int .i64 r.value, .slice pr r.args.length cr]] rfl ?_ ((D.out W (Ext.trans HEW.out hA.rel)).mono ?_)
                · simp [execOp, resolve, invoke, Deferred.ofValue, e1, e2, e3]
                  rfl
                · rintro x W1 ⟨hE1, q, d, rfl, hT⟩
                  exact ⟨_, rfl, hE1, fun s h1 h2 => ⟨q, d, h1 rfl, hT.imp (fun b hb _ => hb.imp id (fun h => Nat.le_trans hA.rel.size h))⟩⟩
              | 9, ho =>
                obtain rfl := Option.some.inj ho
                obtain ⟨q, d, e0, hT⟩ := hA.new 8 (by decide) (by kernel_rfl)
                have e1 : a'.eval (.tmp 35) = .agg #[.int .i64 T.kind, .int .i64 T.op, sV T.name, .int .i64 T.value, .slice q T.args.length d] := (sv_dst (l := _) rfl).symm.trans e0
                refine GoesG.value (.slice (some ⟨W.heap.size, 0, none⟩) 1 1) (W' := W.alloc (.cells #[.int .i64 T.kind, .int .i64 T.op, sV T.name, .int .i64 T.value, .slice q T.args.length d] tEx)) rfl ?_ ((Below.refl _ W).alloc (Nat.le_refl _) _) (fun s h1 h2 => ⟨W.heap.size, q, d, h1 rfl, alloc_here _ _, hT.ext ((Below.refl _ W).alloc (Nat.le_refl _) _)⟩)
                simp only [execOp]
                have e2 : a'.tmps[35]?.getD undef = .agg #[.int .i64 T.kind, .int .i64 T.op, sV T.name, .int .i64 T.value, .slice q T.args.length d] := by rw [← e1]; simp [Act.eval, Array.getD_eq_getD_getElem?]
                simp [go_sem, e2]
              | i + 10, ho => cases ho
            · intro vs w4 hvs hG hΦ
              obtain ⟨u0, u1, u2, u3, u4, u5, u6, u7, u8, u9, rfl⟩ := ten' vs hvs
              obtain ⟨g4, q3, d3', hu9, hg4, hA3⟩ : ∃ g q d, u9 = .slice (some ⟨g, 0, none⟩) 1 1 ∧ w4.heap[g]? = some (.cells #[.int .i64 T.kind, .int .i64 T.op, sV T.name, .int .i64 T.value, .slice q T.args.length d] tEx (0, 0)) ∧ AtB (fun b => b < w₀.heap.size ∨ wr.heap.size ≤ b) w4 q T := hΦ 9 (by decide)
              have hu0 : v = u0 := Eq.symm (hΦ 0 (by decide))
              subst hu9
              subst hu0
              have HE4 := Lib.hid (show Ext wr w4 from hG)
              have HA3 := Lib.hid hA3
              have hsz : w1.heap.size ≤ w4.heap.size := Nat.le_trans HE.out.size hG.size
              have HR4 := Lib.hid (HRO.out.ext hG)
              have HG4 := Lib.hid hg4
              clear hΦ hG hvs hA3 hg4
              simp only [putAll, Act.put, List.setIfInBounds_toArray, List.set_cons_succ, List.set_cons_zero]
              refine wp_appG (by rfl) _ _ (by rfl) (by rfl) w1.heap.size v rj (by rfl) w4 HR4.out (T, q3, d3') g4 (by rfl) HG4.out (by omega) hsz ?_
              intro v' w5 hrow5 hbel5 hkb5
              have HROW5 := Lib.hid hrow5
              have HBEL5 := Lib.hid hbel5
              have HKB5 := Lib.hid hkb5
              clear hrow5 hbel5 hkb5
              go_wp2
              refine ⟨?_, ?_⟩
              · have hgl := World.ownsRow.lt HRO.out
                have hs0 := HW.out.size
                have hs1 := HWX.out.size
                have hs2 := HE.out.size
                have hA4 : AtB (OffV w₀ w1 v) w4 q3 (ff e.args[rj.length]) := by
                  rw [HT1.out]
                  refine HA3.out.imp (fun b hb _ => ?_)
                  rcases hb with hb | hb
                  · exact ⟨.inl hb, fun e => by have := (hgl b e).1; omega⟩
                  · exact ⟨.inr (by omega), fun e => by have := (hgl b e).2; omega⟩
                have hst := AppInv.step (v' := v') (W := w5) (HI.out.ext HE4.out) hjt q3 d3' HKB5.out hA4
                rw [HT1.out] at hst
                exact ⟨rj ++ [(T, q3, d3')], _, rfl, by simp; omega, by rw [List.length_append]; go_num, HROW5.out, hst, Below.trans (Ext.trans HE.out HE4.out) HBEL5.out⟩
              · simp [intOf]; omega
          · have hjn : rj.length = nts := by omega
            have hjl : rj.length = e.args.length := by rw [hjn, HTS.out]
            have hs0 := HW.out.size
            have hs1 := HWX.out.size
            obtain ⟨p', cap', hv', hdone⟩ := AppInv.done (S := fun b => b < w₀.heap.size ∨ w.heap.size ≤ b) hI hjl hr HFit.out (fun b hb => .inr (by omega)) (fun b hb => by omega)
            rw [HTS.out] at hv'
            subst hv'
            obtain ⟨g0, g1, g2, g3, g4, f1⟩ := box5 hbr
            have HE := Lib.hid hE
            have HBE := Lib.hid hbe
            have HBR := Lib.hid hbr
            have HD := Lib.hid hdone
            clear hr hI hE hbe hbr hdone hjl hjn hs0 hs1 hEw
            go_wp2
            have h6 : ∀ b, b ≠ w.heap.size → (wr.setCell ⟨w.heap.size, 4, none⟩ (.slice p' nts cap')).heap[b]? = wr.heap[b]? := fun b hb => Below.heap_setCell _ ⟨w.heap.size, 4, none⟩ _ _ hb
            have h7 : Below w.heap.size wr (wr.setCell ⟨w.heap.size, 4, none⟩ (.slice p' nts cap')) := (Below.refl _ wr).setCell (p := ⟨w.heap.size, 4, none⟩) (Nat.le_refl _) _
            obtain ⟨V, hV, m0, m1, m2, m3, m4, h4, h5⟩ := put5b (W := wr.setCell ⟨w.heap.size, 4, none⟩ (.slice p' nts cap')) ((h6 (w.heap.size + 2) (by omega)).trans HBR.out) (.int .i64 2) (.int .i64 o1) (.string (sB n1)) (.int .i64 v1) (.slice p' nts cap')
            rw [hV]
            have hs0 := HW.out.size
            have hs1 := HWX.out.size
            have hl1 := HL1.out
            refine bodyPost_ret (v := .agg #[.int .i64 2, .int .i64 o1, .string (sB n1), .int .i64 v1, .slice p' nts cap']) (by simp [results, Tryd.f50, go_sem, m0, m1, m2, m3, m4, sB_nil]) rfl ⟨Below.trans (Below.trans (Ext.trans HWX.out HE.out) h7) (h4 _ (by omega)), p', cap', ?_, ?_⟩
            · rw [HRR.out]
              have hla : (e.args.map (ff)).length = nts := by rw [List.length_map]; exact HTS.out
              show _ = Ending.returned (.agg #[.int .i64 2, .int .i64 o1, sV n1, .int .i64 v1, .slice p' (e.args.map (ff)).length cap'])
              rw [hla]
            · rw [HRR.out]
              refine HD.out V (fun b hb hl => ?_)
              have hne : b ≠ w.heap.size ∧ b ≠ w.heap.size + 2 := by omega
              rw [h5 b hne.2, h6 b hne.1]
      · have hk' : (k1 == 2) = false := by simpa using hk
        clear hm
        go_enter Tryd.func50, Tryd.ntmps50
        go_wp2
        clear d0 d1 d2 d3 d4 f0
        have HWX := HE0
        have HS1 := Lib.hid (show ((((w.alloc (.cells #[.int .i64 k1, .int .i64 o1, sV n1, .int .i64 v1, .slice p nts c] tEx)).alloc (.cells #[.int .i64 r.kind, .int .i64 r.op, sV r.name, .int .i64 r.value, .slice pr r.args.length cr] tEx)).alloc (.cells #[.int .i64 0, .int .i64 0, .string { data := #[] }, .int .i64 0, .slice none 0 0] tEx)).heap.size = w.heap.size + 1 + 1 + 1) by simp)
        have HL1 := Lib.hid (lt_of_block HBX2.out)
        generalize (((w.alloc (.cells #[.int .i64 k1, .int .i64 o1, sV n1, .int .i64 v1, .slice p nts c] tEx)).alloc (.cells #[.int .i64 r.kind, .int .i64 r.op, sV r.name, .int .i64 r.value, .slice pr r.args.length cr] tEx)).alloc (.cells #[.int .i64 0, .int .i64 0, .string { data := #[] }, .int .i64 0, .slice none 0 0] tEx)) = w1 at *
        have hl1 := HL1.out
        go_loopw [7, 8] (fun u i wr => ∃ rj v, v = u ∧ rj.length ≤ nts ∧ i = .int .i64 ((rj.length : Nat) : Int) ∧ RowE w1.heap.size v rj wr ∧ AppInv (ff) w₀ w1 e.args v rj wr ∧ Ext w1 wr) (fun _ i _ => nts - (intOf i).toNat)
        case atStart => exact ⟨[], _, rfl, Nat.zero_le _, rfl, (by rw [← HS1.out]; exact RowE.empty _ _ (Nat.le_refl _)), AppInv.start, (Below.refl _ w1).alloc (Nat.le_refl _) _⟩
        case round =>
          obtain ⟨rj, v, hvu, hj, rfl, hr, hI, hE⟩ := hrel
          subst hvu
          have hbe := (hE.below.block _ (lt_of_block HBX0.out)).trans HBX0.out
          have hbr := (hE.below.block _ (lt_of_block HBX2.out)).trans HBX2.out
          obtain ⟨d0, d1, d2, d3, d4, f0⟩ := box5 hbe
          have hEw := Ext.trans HW.out (Ext.trans HWX.out hE)
          by_cases hlt : rj.length < nts
          · have hjt : rj.length < e.args.length := by rw [HTS.out]; exact hlt
            obtain ⟨b, off, q2, dd2, rfl, hcs, hA1⟩ := HR.out.get rj.length hjt
            rw [Nat.zero_add] at hcs
            obtain ⟨c0, c1, c2, c3, c4⟩ := hcs.below hEw
            have D := Lib.hid (fun W (h : Ext w₀ W) => show Calls _ _ #[.agg #[.int .i64 (e.args[rj.length]).kind, .int .i64 (e.args[rj.length]).op, sV (e.args[rj.length]).name, .int .i64 (e.args[rj.length]).value, .slice q2 (e.args[rj.length]).args.length dd2], _, _] _ _ from IH.out e.args[rj.length] (List.getElem_mem hjt) q2 dd2 hA1 W h)
            obtain ⟨T, hT⟩ : ∃ T, ff e.args[rj.length] = T := ⟨_, rfl⟩
            rw [hT] at D
            have HT1 := Lib.hid hT
            have HRO := Lib.hid hr
            have HI := Lib.hid hI
            have HE := Lib.hid hE
            have HCS := Lib.hid (fun W (h : Ext w₀ W) => show W.cell? ⟨b, off + rj.length * 5, none⟩ = some (.int .i64 (e.args[rj.length]).kind) ∧ W.cell? ⟨b, off + rj.length * 5 + 1, none⟩ = some (.int .i64 (e.args[rj.length]).op) ∧ W.cell? ⟨b, off + rj.length * 5 + 2, none⟩ = some (sV (e.args[rj.length]).name) ∧ W.cell? ⟨b, off + rj.length * 5 + 3, none⟩ = some (.int .i64 (e.args[rj.length]).value) ∧ W.cell? ⟨b, off + rj.length * 5 + 4, none⟩ = some (.slice q2 (e.args[rj.length]).args.length dd2) from hcs.below h)
            clear hcs
            have HEW := Lib.hid hEw
            have HBR0 := Lib.hid hbe
            have HBR1 := Lib.hid ((hE.below.block _ (lt_of_block HBX1.out)).trans HBX1.out)
            clear hT hr hI hE hbe hbr hA1 hEw
            generalize (e.args[rj.length]).kind = k2 at *
            generalize (e.args[rj.length]).op = o2 at *
            generalize (e.args[rj.length]).name = n2 at *
            generalize (e.args[rj.length]).value = v2' at *
            generalize (e.args[rj.length]).args.length = l2 at *
            go_wp2
            refine wp_region_tail (l1 := [_, _, _, _, _, _, _, _, _, _]) (l2 := [_, _]) (by kernel_rfl) Ext (fun W => Below.refl _ W) (fun W => show Below W.heap.size W { W with drawn := W.drawn + 1 } from ⟨rfl, rfl, rfl, Nat.le_refl _, fun _ _ => rfl⟩) Ext.trans (rpR v w.heap.size b off rj.length (some ⟨b, off, none⟩) nts c (.agg #[.int .i64 k2, .int .i64 o2, sV n2, .int .i64 v2', .slice q2 l2 dd2]) (.agg #[.int .i64 r.kind, .int .i64 r.op, sV r.name, .int .i64 r.value, .slice pr r.args.length cr]) m (fun b => b < w₀.heap.size ∨ wr.heap.size ≤ b) T) (fun i => [i]) (rpR_st _ _ _ _ _ _ _ _ _ _ _ _ _) (by kernel_rfl) (by kernel_rfl) (by kernel_rfl) 41 rfl (by kernel_rfl) (by kernel_rfl) ?_ ?_
            · intro i op ho a' W hA
              have hbx := (hA.rel.below.block _ (lt_of_block HBR0.out)).trans HBR0.out
              have hby := (hA.rel.below.block _ (lt_of_block HBR1.out)).trans HBR1.out
              obtain ⟨x0, x1, x2, x3, x4, f0⟩ := box5 hbx
              obtain ⟨y0, y1, y2, y3, y4, f1⟩ := box5 hby
              obtain ⟨c0, c1, c2, c3, c4⟩ := HCS.out W (Ext.trans HEW.out hA.rel)
              match i, ho with
              | 0, ho =>
                obtain rfl := Option.some.inj ho
                exact GoesG.move (.tmp 7) rfl rfl (Below.refl _ _) (fun s h1 h2 => (h1 rfl).trans (hA.keep 7 (by kernel_rfl)))
              | 1, ho =>
                obtain rfl := Option.some.inj ho
                have e1 : a'.eval (.tmp 3) = .pointer (some ⟨w.heap.size, 0, none⟩) := hA.keep 3 (by kernel_rfl)
                refine GoesG.value (.pointer (some ⟨w.heap.size, 4, none⟩)) rfl ?_ (Below.refl _ _) (fun s h1 h2 => h1 rfl)
                simp only [execOp, e1]
                simp [go_sem]
              | 2, ho =>
                obtain rfl := Option.some.inj ho
                have e1 : a'.eval (.tmp 28) = .pointer (some ⟨w.heap.size, 4, none⟩) := (sv_dst (l := _) rfl).symm.trans (hA.new 1 (by decide) (by kernel_rfl))
                refine GoesG.value (.slice (some ⟨b, off, none⟩) nts c) rfl ?_ (Below.refl _ _) (fun s h1 h2 => h1 rfl)
                simp only [execOp, e1]
                simp [go_sem, x4]
              | 3, ho =>
                obtain rfl := Option.some.inj ho
                exact GoesG.move (.tmp 8) rfl rfl (Below.refl _ _) (fun s h1 h2 => (h1 rfl).trans (hA.keep 8 (by kernel_rfl)))
              | 4, ho =>
                obtain rfl := Option.some.inj ho
                have e1 : a'.eval (.tmp 29) = .slice (some ⟨b, off, none⟩) nts c := (sv_dst (l := _) rfl).symm.trans (hA.new 2 (by decide) (by kernel_rfl))
                have e2 : a'.eval (.tmp 30) = .int .i64 (rj.length : Int) := (sv_dst (l := _) rfl).symm.trans (hA.new 3 (by decide) (by kernel_rfl))
                refine GoesG.value (.pointer (some ⟨b, off + rj.length * 5, none⟩)) rfl ?_ (Below.refl _ _) (fun s h1 h2 => h1 rfl)
                simp only [execOp, e1, e2]
                simp [go_sem, hlt]
              | 5, ho =>
                obtain rfl := Option.some.inj ho
                have e1 : a'.eval (.tmp 31) = .pointer (some ⟨b, off + rj.length * 5, none⟩) := (sv_dst (l := _) rfl).symm.trans (hA.new 4 (by decide) (by kernel_rfl))
                refine GoesG.value (.agg #[.int .i64 k2, .int .i64 o2, sV n2, .int .i64 v2', .slice q2 l2 dd2]) rfl ?_ (Below.refl _ _) (fun s h1 h2 => h1 rfl)
                simp only [execOp, e1]
                simp [go_sem, c0, c1, c2, c3, c4]
              | 6, ho =>
                obtain rfl := Option.some.inj ho
                exact GoesG.move (.tmp 1) rfl rfl (Below.refl _ _) (fun s h1 h2 => (h1 rfl).trans (hA.keep 1 (by kernel_rfl)))
              | 7, ho =>
                obtain rfl := Option.some.inj ho
                have e1 : a'.eval (.tmp 5) = .pointer (some ⟨w.heap.size + 1, 0, none⟩) := hA.keep 5 (by kernel_rfl)
                refine GoesG.value (.agg #[.int .i64 r.kind, .int .i64 r.op, sV r.name, .int .i64 r.value, .slice pr r.args.length cr]) rfl ?_ (Below.refl _ _) (fun s h1 h2 => h1 rfl)
                simp only [execOp, e1]
                simp [go_sem, y0, y1, y2, y3, y4]
              | 8, ho =>
                obtain rfl := Option.some.inj ho
                have e1 : a'.eval (.tmp 32) = .agg #[.int .i64 k2, .int .i64 o2, sV n2, .int .i64 v2', .slice q2 l2 dd2] := (sv_dst (l := _) rfl).symm.trans (hA.new 5 (by decide) (by kernel_rfl))
                have e2 : a'.eval (.tmp 33) = sV m := (sv_dst (l := _) rfl).symm.trans (hA.new 6 (by decide) (by kernel_rfl))
                have e3 : a'.eval (.tmp 34) = .agg #[.int .i64 r.kind, .int .i64 r.op, sV r.name, .int .i64 r.value, .slice pr r.args.length cr] := (sv_dst (l := _) rfl).symm.trans (hA.new 7 (by decide) (by kernel_rfl))
                refine GoesG.call 50 #[.agg #[.int .i64 k2, .int .i64 o2, sV n2, .int .i64 v2', .slice q2 l2 dd2], sV m, .agg #[.int .i64 r.kind, .int .i64 r.op, sV r.name, .int .i64 r.value, .slice pr r.args.length cr]] rfl ?_ ((D.out W (Ext.trans HEW.out hA.rel)).mono ?_)
                · simp [execOp, resolve, invoke, Deferred.ofValue, e1, e2, e3]
                  rfl
                · rintro x W1 ⟨hE1, q, d, rfl, hT⟩
                  exact ⟨_, rfl, hE1, fun s h1 h2 => ⟨q, d, h1 rfl, hT.imp (fun b hb _ => hb.imp id (fun h => Nat.le_trans hA.rel.size h))⟩⟩
              | 9, ho =>
                obtain rfl := Option.some.inj ho
                obtain ⟨q, d, e0, hT⟩ := hA.new 8 (by decide) (by kernel_rfl)
                have e1 : a'.eval (.tmp 35) = .agg #[.int .i64 T.kind, .int .i64 T.op, sV T.name, .int .i64 T.value, .slice q T.args.length d] := (sv_dst (l := _) rfl).symm.trans e0
                refine GoesG.value (.slice (some ⟨W.heap.size, 0, none⟩) 1 1) (W' := W.alloc (.cells #[.int .i64 T.kind, .int .i64 T.op, sV T.name, .int .i64 T.value, .slice q T.args.length d] tEx)) rfl ?_ ((Below.refl _ W).alloc (Nat.le_refl _) _) (fun s h1 h2 => ⟨W.heap.size, q, d, h1 rfl, alloc_here _ _, hT.ext ((Below.refl _ W).alloc (Nat.le_refl _) _)⟩)
                simp only [execOp]
                have e2 : a'.tmps[35]?.getD undef = .agg #[.int .i64 T.kind, .int .i64 T.op, sV T.name, .int .i64 T.value, .slice q T.args.length d] := by rw [← e1]; simp [Act.eval, Array.getD_eq_getD_getElem?]
                simp [go_sem, e2]
              | i + 10, ho => cases ho
            · intro vs w4 hvs hG hΦ
              obtain ⟨u0, u1, u2, u3, u4, u5, u6, u7, u8, u9, rfl⟩ := ten' vs hvs
              obtain ⟨g4, q3, d3', hu9, hg4, hA3⟩ : ∃ g q d, u9 = .slice (some ⟨g, 0, none⟩) 1 1 ∧ w4.heap[g]? = some (.cells #[.int .i64 T.kind, .int .i64 T.op, sV T.name, .int .i64 T.value, .slice q T.args.length d] tEx (0, 0)) ∧ AtB (fun b => b < w₀.heap.size ∨ wr.heap.size ≤ b) w4 q T := hΦ 9 (by decide)
              have hu0 : v = u0 := Eq.symm (hΦ 0 (by decide))
              subst hu9
              subst hu0
              have HE4 := Lib.hid (show Ext wr w4 from hG)
              have HA3 := Lib.hid hA3
              have hsz : w1.heap.size ≤ w4.heap.size := Nat.le_trans HE.out.size hG.size
              have HR4 := Lib.hid (HRO.out.ext hG)
              have HG4 := Lib.hid hg4
              clear hΦ hG hvs hA3 hg4
              simp only [putAll, Act.put, List.setIfInBounds_toArray, List.set_cons_succ, List.set_cons_zero]
              refine wp_appG (by rfl) _ _ (by rfl) (by rfl) w1.heap.size v rj (by rfl) w4 HR4.out (T, q3, d3') g4 (by rfl) HG4.out (by omega) hsz ?_
              intro v' w5 hrow5 hbel5 hkb5
              have HROW5 := Lib.hid hrow5
              have HBEL5 := Lib.hid hbel5
              have HKB5 := Lib.hid hkb5
              clear hrow5 hbel5 hkb5
              go_wp2
              refine ⟨?_, ?_⟩
              · have hgl := World.ownsRow.lt HRO.out
                have hs0 := HW.out.size
                have hs1 := HWX.out.size
                have hs2 := HE.out.size
                have hA4 : AtB (OffV w₀ w1 v) w4 q3 (ff e.args[rj.length]) := by
                  rw [HT1.out]
                  refine HA3.out.imp (fun b hb _ => ?_)
                  rcases hb with hb | hb
                  · exact ⟨.inl hb, fun e => by have := (hgl b e).1; omega⟩
                  · exact ⟨.inr (by omega), fun e => by have := (hgl b e).2; omega⟩
                have hst := AppInv.step (v' := v') (W := w5) (HI.out.ext HE4.out) hjt q3 d3' HKB5.out hA4
                rw [HT1.out] at hst
                exact ⟨rj ++ [(T, q3, d3')], _, rfl, by simp; omega, by rw [List.length_append]; go_num, HROW5.out, hst, Below.trans (Ext.trans HE.out HE4.out) HBEL5.out⟩
              · simp [intOf]; omega
          · have hjn : rj.length = nts := by omega
            have hjl : rj.length = e.args.length := by rw [hjn, HTS.out]
            have hs0 := HW.out.size
            have hs1 := HWX.out.size
            obtain ⟨p', cap', hv', hdone⟩ := AppInv.done (S := fun b => b < w₀.heap.size ∨ w.heap.size ≤ b) hI hjl hr HFit.out (fun b hb => .inr (by omega)) (fun b hb => by omega)
            rw [HTS.out] at hv'
            subst hv'
            obtain ⟨g0, g1, g2, g3, g4, f1⟩ := box5 hbr
            have HE := Lib.hid hE
            have HBE := Lib.hid hbe
            have HBR := Lib.hid hbr
            have HD := Lib.hid hdone
            clear hr hI hE hbe hbr hdone hjl hjn hs0 hs1 hEw
            go_wp2
            have h6 : ∀ b, b ≠ w.heap.size → (wr.setCell ⟨w.heap.size, 4, none⟩ (.slice p' nts cap')).heap[b]? = wr.heap[b]? := fun b hb => Below.heap_setCell _ ⟨w.heap.size, 4, none⟩ _ _ hb
            have h7 : Below w.heap.size wr (wr.setCell ⟨w.heap.size, 4, none⟩ (.slice p' nts cap')) := (Below.refl _ wr).setCell (p := ⟨w.heap.size, 4, none⟩) (Nat.le_refl _) _
            obtain ⟨V, hV, m0, m1, m2, m3, m4, h4, h5⟩ := put5b (W := wr.setCell ⟨w.heap.size, 4, none⟩ (.slice p' nts cap')) ((h6 (w.heap.size + 2) (by omega)).trans HBR.out) (.int .i64 k1) (.int .i64 o1) (.string (sB n1)) (.int .i64 v1) (.slice p' nts cap')
            rw [hV]
            have hs0 := HW.out.size
            have hs1 := HWX.out.size
            have hl1 := HL1.out
            refine bodyPost_ret (v := .agg #[.int .i64 k1, .int .i64 o1, .string (sB n1), .int .i64 v1, .slice p' nts cap']) (by simp [results, Tryd.f50, go_sem, m0, m1, m2, m3, m4, sB_nil]) rfl ⟨Below.trans (Below.trans (Ext.trans HWX.out HE.out) h7) (h4 _ (by omega)), p', cap', ?_, ?_⟩
            · rw [HRR.out]
              have hla : (e.args.map (ff)).length = nts := by rw [List.length_map]; exact HTS.out
              show _ = Ending.returned (.agg #[.int .i64 k1, .int .i64 o1, sV n1, .int .i64 v1, .slice p' (e.args.map (ff)).length cap'])
              rw [hla]
            · rw [HRR.out]
              refine HD.out V (fun b hb hl => ?_)
              have hne : b ≠ w.heap.size ∧ b ≠ w.heap.size + 2 := by omega
              rw [h5 b hne.2, h6 b hne.1]

end Go.Proofs.YtgkalcboklhdgaaDoor

namespace Go.Proofs.YtgkalcboklhdgaaDoor
open Go.RowKit
set_option linter.unusedVariables false
set_option linter.unusedSimpArgs false
open Ex

theorem wanted_of {l : List Oper} {a' : Act} {o : Oper} {j : Nat} {g v : Bool} (hg : o.guard = some (j, g)) (hv : sv l a' j = .bool v) : Region.wanted o (yielded l.toArray a'.tmps) = (v == g) := by
  unfold sv at hv
  have hy : yielded l.toArray a'.tmps j = some v := by
    unfold yielded
    cases hd : (l[j]?).bind (·.dst) with
    | none => rw [hd] at hv; cases hv
    | some d =>
      rw [hd] at hv
      dsimp only at hv
      have h1 : a'.tmps[d]? = some (.bool v) := by
        cases ht : a'.tmps[d]? with
        | none => simp [Array.getD_eq_getD_getElem?, ht] at hv; cases hv
        | some x => simp [Array.getD_eq_getD_getElem?, ht] at hv; rw [hv]
      have h2 : (l.toArray[j]?).bind (·.dst) = some d := by simpa using hd
      rw [h2]
      simp [h1]
  simp [Region.wanted, hg, hy]
theorem GoesG.valueW {P : Program} {l : List Oper} {R : World → World → Prop} {Φ : Nat → (Nat → Value) → World → Prop} {i : Nat} {o : Oper} {a' : Act} {W W' : World} {Q : Exit → Act → World → Prop} (v : Value) (j : Nat) (g b : Bool) (hg : o.guard = some (j, g)) (hv : sv l a' j = .bool b) (hbg : (b == g) = true) (hrun : (execOp a'.eval o).run P W = .ok (.value v) W') (hR : R W W')
    (hΦ : ∀ s : Nat → Value, (o.dst.isSome = true → s i = v) → (∀ k, k ≠ i → ancB l l.length i k = true → s k = sv l a' k) → Φ i s W') : GoesG P l R Φ i o a' W Q := by
  unfold GoesG
  rw [if_pos (by rw [wanted_of hg hv, hbg])]
  unfold Oper.wp
  rw [hrun]
  exact ⟨v, rfl, hR, hΦ⟩
theorem GoesG.skipW {P : Program} {l : List Oper} {R : World → World → Prop} {Φ : Nat → (Nat → Value) → World → Prop} {i : Nat} {o : Oper} {a' : Act} {W : World} {Q : Exit → Act → World → Prop} (j : Nat) (g b : Bool) (hg : o.guard = some (j, g)) (hv : sv l a' j = .bool b) (hbg : (b == g) = false) (hR : R W W)
    (hΦ : ∀ s : Nat → Value, Φ i s W) : GoesG P l R Φ i o a' W Q := by
  unfold GoesG
  rw [if_neg (by rw [wanted_of hg hv, hbg]; simp)]
  exact ⟨hR, fun s _ _ => hΦ s⟩

/-- the values of the region that looks at a part -/
def s1V (n : Nat) (rr : Value) (k : Int) (kb nb : Bool) (nm m : List UInt8) : Nat → Value → Prop
  | 0, x => x = rr
  | 1, x => x = .pointer (some ⟨n, 0, none⟩)
  | 2, x => x = .int .i64 k
  | 3, x => x = .bool kb
  | 4, x => x = .bool kb
  | 5, x => kb = true → x = .pointer (some ⟨n, 2, none⟩)
  | 6, x => kb = true → x = sV nm
  | 7, x => kb = true → x = sV m
  | 8, x => kb = true → x = .bool nb
  | 9, x => x = .bool (kb && nb)
  | 11, x => x = .bool (kb && nb)
  | _, _ => True
def s1R (n : Nat) (rr : Value) (F : Array Value → Prop) (k : Int) (kb nb : Bool) (nm m : List UInt8) (i : Nat) (s : Nat → Value) (W : World) : Prop :=
  if i = 10 then ∃ cc, W.heap[n + 1]? = some (.cells cc tEx (0, 0)) ∧ F cc else s1V n rr k kb nb nm m i (s i)
theorem s1R_st (n : Nat) (rr : Value) (F : Array Value → Prop) (k : Int) (kb nb : Bool) (nm m : List UInt8) : ∀ i s s' W W', s1R n rr F k kb nb nm m i s W → (∀ j ∈ [i], s' j = s j) → Grow (n + 1) tEx F W W' → s1R n rr F k kb nb nm m i s' W' := by
  intro i s s' W W' h hs hG
  unfold s1R at h ⊢
  by_cases e : i = 10
  · rw [if_pos e] at h ⊢
    obtain ⟨cc, h1, h2⟩ := h
    exact hG.done h1 h2
  · rw [if_neg e] at h ⊢
    rw [hs i (by simp)]; exact h

theorem twelve {α : Type} (fs : List α) (h : fs.length = 12) : ∃ a b c d e f g i j k l m, fs = [a, b, c, d, e, f, g, i, j, k, l, m] := by
  match fs, h with
  | [a, b, c, d, e, f, g, i, j, k, l, m], _ => exact ⟨a, b, c, d, e, f, g, i, j, k, l, m, rfl⟩

set_option maxRecDepth 100000 in
set_option maxHeartbeats 4000000 in
theorem Sub1_any (m : List UInt8) (r : Ex) (pr : Option Addr) (cr : Nat) (b1 b2 : Nat) (e : Ex) (p : Option Addr) (c : Nat) (w : World) (T1 T2 : TypeId)
    (h1 : w.heap[b1]? = some (.cells #[.int .i64 r.kind, .int .i64 r.op, sV r.name, .int .i64 r.value, .slice pr r.args.length cr] tEx (0, 0))) (h2 : w.heap[b2]? = some (.cells #[sV m] T2 (0, 0))) :
    Calls Tryd.prog 49 #[e.val p c, .pointer (some ⟨b1, 0, none⟩), .pointer (some ⟨b2, 0, none⟩)] w fun x w' => Ext w w' ∧ x = .returned (.tuple #[r.val pr cr, .bool ((e.kind == 2) && (e.name == m))]) := by
  have hv : e.val p c = .agg #[.int .i64 e.kind, .int .i64 e.op, sV e.name, .int .i64 e.value, .slice p e.args.length c] := rfl
  have hv2 : r.val pr cr = .agg #[.int .i64 r.kind, .int .i64 r.op, sV r.name, .int .i64 r.value, .slice pr r.args.length cr] := rfl
  rw [hv, hv2]
  clear hv hv2
  generalize e.kind = k1 at *
  generalize e.op = o1 at *
  generalize e.name = n1 at *
  generalize e.value = v1 at *
  generalize e.args.length = l1 at *
  generalize r.kind = rk at *
  generalize r.op = ro at *
  generalize r.name = rn at *
  generalize r.value = rv at *
  generalize r.args.length = rl at *
  have HQ := Lib.hid (And.intro h1 h2)
  obtain ⟨hb0, hb1, hE0⟩ := two_boxes w (.int .i64 k1) (.int .i64 o1) (sV n1) (.int .i64 v1) (.slice p l1 c) (.int .i64 0) (.int .i64 0) (.string { data := #[] }) (.int .i64 0) (.slice none 0 0) tEx
  have HB0 := Lib.hid hb0
  have HB1 := Lib.hid hb1
  have HE0 := Lib.hid hE0
  clear h1 h2 hb0 hb1 hE0
  generalize hkb : (k1 == 2) = kb
  generalize hnb : (n1 == m) = nb
  go_enter Tryd.func49, Tryd.ntmps49
  go_wp2
  generalize hW1 : ((w.alloc (.cells #[.int .i64 k1, .int .i64 o1, sV n1, .int .i64 v1, .slice p l1 c] tEx)).alloc (.cells #[.int .i64 0, .int .i64 0, .string { data := #[] }, .int .i64 0, .slice none 0 0] tEx)) = w1 at *
  obtain ⟨h1, h2⟩ := HQ.out
  have hx1 : w1.heap[b1]? = _ := (HE0.out.below.block b1 (lt_of_block h1)).trans h1
  have hx2 : w1.heap[b2]? = _ := (HE0.out.below.block b2 (lt_of_block h2)).trans h2
  have hx3 := HB0.out
  have hx4 := HB1.out
  have hl1 := lt_of_block h1
  have hl2 := lt_of_block h2
  have hl3 := lt_of_block hx4
  refine wp_region_g (by kernel_rfl) (Grow (w.heap.size + 1) tEx (fun cc => cc = #[.int .i64 rk, .int .i64 ro, sV rn, .int .i64 rv, .slice pr rl cr])) (Grow.drawn _ _ _) Grow.trans (s1R w.heap.size (.agg #[.int .i64 rk, .int .i64 ro, sV rn, .int .i64 rv, .slice pr rl cr]) (fun cc => cc = #[.int .i64 rk, .int .i64 ro, sV rn, .int .i64 rv, .slice pr rl cr]) k1 kb nb n1 m) (fun j => [j]) (s1R_st _ _ _ _ _ _ _ _) (by kernel_rfl) (by kernel_rfl) (by kernel_rfl) 16 rfl (by kernel_rfl) ?_ ?_
  · intro i op ho a' W hA
    have q1 : W.heap[b1]? = _ := (hA.rel.low (by omega) (by omega)).trans hx1
    have q2 : W.heap[b2]? = _ := (hA.rel.low (by omega) (by omega)).trans hx2
    have q3 : W.heap[w.heap.size]? = _ := (hA.rel.low (by omega) (by omega)).trans hx3
    obtain ⟨x0, x1, x2, x3, x4, _⟩ := box5 q1
    obtain ⟨y0, y1, y2, y3, y4, _⟩ := box5 q3
    have z0 : W.cell? ⟨b2, 0, none⟩ = some (sV m) := cell_of q2 rfl
    match i, ho with
    | 0, ho =>
      obtain rfl := Option.some.inj ho
      have e1 : a'.eval (.tmp 1) = .pointer (some ⟨b1, 0, none⟩) := hA.keep 1 (by kernel_rfl)
      refine GoesG.value (.agg #[.int .i64 rk, .int .i64 ro, sV rn, .int .i64 rv, .slice pr rl cr]) rfl ?_ (Grow.refl _ _ _ _) (fun s h1 h2 => h1 rfl)
      simp only [execOp, e1]
      simp [go_sem, x0, x1, x2, x3, x4]
    | 1, ho =>
      obtain rfl := Option.some.inj ho
      have e1 : a'.eval (.tmp 3) = .pointer (some ⟨w.heap.size, 0, none⟩) := hA.keep 3 (by kernel_rfl)
      refine GoesG.value (.pointer (some ⟨w.heap.size, 0, none⟩)) rfl ?_ (Grow.refl _ _ _ _) (fun s h1 h2 => h1 rfl)
      simp only [execOp, e1]
      simp [go_sem]
    | 2, ho =>
      obtain rfl := Option.some.inj ho
      have e1 : a'.eval (.tmp 7) = .pointer (some ⟨w.heap.size, 0, none⟩) := (sv_dst (l := _) rfl).symm.trans (hA.new 1 (by decide) (by kernel_rfl))
      refine GoesG.value (.int .i64 k1) rfl ?_ (Grow.refl _ _ _ _) (fun s h1 h2 => h1 rfl)
      simp only [execOp, e1]
      simp [go_sem, y0]
    | 3, ho =>
      obtain rfl := Option.some.inj ho
      have e1 : a'.eval (.tmp 8) = .int .i64 k1 := (sv_dst (l := _) rfl).symm.trans (hA.new 2 (by decide) (by kernel_rfl))
      refine GoesG.value (.bool kb) rfl ?_ (Grow.refl _ _ _ _) (fun s h1 h2 => h1 rfl)
      simp only [execOp, e1]
      simp [go_sem, hkb]
    | 4, ho =>
      obtain rfl := Option.some.inj ho
      exact GoesG.move (.tmp 9) rfl rfl (Grow.refl _ _ _ _) (fun s h1 h2 => (h1 rfl).trans ((sv_dst (l := _) rfl).symm.trans (hA.new 3 (by decide) (by kernel_rfl))))
    | 5, ho =>
      obtain rfl := Option.some.inj ho
      have hg := hA.new 4 (by decide) (by kernel_rfl)
      have e1 : a'.eval (.tmp 3) = .pointer (some ⟨w.heap.size, 0, none⟩) := hA.keep 3 (by kernel_rfl)
      cases kb with
      | true =>
        refine GoesG.valueW (.pointer (some ⟨w.heap.size, 2, none⟩)) 4 true true rfl hg rfl ?_ (Grow.refl _ _ _ _) (fun s h1 h2 _ => h1 rfl)
        simp only [execOp, e1]
        simp [go_sem]
      | false => exact GoesG.skipW 4 true false rfl hg rfl (Grow.refl _ _ _ _) (fun s h => by cases h)
    | 6, ho =>
      obtain rfl := Option.some.inj ho
      have hg := hA.new 4 (by decide) (by kernel_rfl)
      cases kb with
      | true =>
        have e1 : a'.eval (.tmp 11) = .pointer (some ⟨w.heap.size, 2, none⟩) := (sv_dst (l := _) rfl).symm.trans (hA.new 5 (by decide) (by kernel_rfl) rfl)
        refine GoesG.valueW (sV n1) 4 true true rfl hg rfl ?_ (Grow.refl _ _ _ _) (fun s h1 h2 _ => h1 rfl)
        simp only [execOp, e1]
        simp [go_sem, y2]
      | false => exact GoesG.skipW 4 true false rfl hg rfl (Grow.refl _ _ _ _) (fun s h => by cases h)
    | 7, ho =>
      obtain rfl := Option.some.inj ho
      have hg := hA.new 4 (by decide) (by kernel_rfl)
      have e1 : a'.eval (.tmp 2) = .pointer (some ⟨b2, 0, none⟩) := hA.keep 2 (by kernel_rfl)
      cases kb with
      | true =>
        refine GoesG.valueW (sV m) 4 true true rfl hg rfl ?_ (Grow.refl _ _ _ _) (fun s h1 h2 _ => h1 rfl)
        simp only [execOp, e1]
        simp [go_sem, z0]
      | false => exact GoesG.skipW 4 true false rfl hg rfl (Grow.refl _ _ _ _) (fun s h => by cases h)
    | 8, ho =>
      obtain rfl := Option.some.inj ho
      have hg := hA.new 4 (by decide) (by kernel_rfl)
      cases kb with
      | true =>
        have e1 : a'.eval (.tmp 12) = sV n1 := (sv_dst (l := _) rfl).symm.trans (hA.new 6 (by decide) (by kernel_rfl) rfl)
        have e2 : a'.eval (.tmp 13) = sV m := (sv_dst (l := _) rfl).symm.trans (hA.new 7 (by decide) (by kernel_rfl) rfl)
        refine GoesG.valueW (.bool nb) 4 true true rfl hg rfl ?_ (Grow.refl _ _ _ _) (fun s h1 h2 _ => h1 rfl)
        simp only [execOp, e1, e2]
        simp [go_sem, hnb]
      | false => exact GoesG.skipW 4 true false rfl hg rfl (Grow.refl _ _ _ _) (fun s h => by cases h)
    | 9, ho =>
      obtain rfl := Option.some.inj ho
      have e1 : a'.eval (.tmp 10) = .bool kb := (sv_dst (l := _) rfl).symm.trans (hA.new 4 (by decide) (by kernel_rfl))
      cases kb with
      | true =>
        have e2 : a'.eval (.tmp 14) = .bool nb := (sv_dst (l := _) rfl).symm.trans (hA.new 8 (by decide) (by kernel_rfl) rfl)
        refine GoesG.value (.bool nb) rfl ?_ (Grow.refl _ _ _ _) (fun s h1 h2 => h1 rfl)
        simp only [execOp, e1, e2]
        simp [go_sem]
      | false =>
        refine GoesG.value (.bool false) rfl ?_ (Grow.refl _ _ _ _) (fun s h1 h2 => h1 rfl)
        simp only [execOp, e1]
        simp [go_sem]
    | 10, ho =>
      obtain rfl := Option.some.inj ho
      obtain ⟨cc, g1, g2⟩ := hA.rel.turn hx4
      have e1 : a'.eval (.tmp 4) = .pointer (some ⟨w.heap.size + 1, 0, none⟩) := hA.keep 4 (by kernel_rfl)
      have e2 : a'.eval (.tmp 6) = .agg #[.int .i64 rk, .int .i64 ro, sV rn, .int .i64 rv, .slice pr rl cr] := (sv_dst (l := _) rfl).symm.trans (hA.new 0 (by decide) (by kernel_rfl))
      exact GoesG.store rfl tEx (.tmp 4) (.tmp 6) rfl (w.heap.size + 1) _ e1 e2 tEx cc g1 (by kernel_rfl) g2 (by simp [Value.oneCell']) rfl (Grow.row g1 (Nat.le_refl _) g2.symm rfl)
        (fun s h2 => ⟨_, setRow_heap _ _ _ _ _ _ g1, rfl⟩)
    | 11, ho =>
      obtain rfl := Option.some.inj ho
      exact GoesG.assign (.tmp 15) rfl rfl (Grow.refl _ _ _ _) (fun s h1 h2 => (h1 rfl).trans ((sv_dst (l := _) rfl).symm.trans (hA.new 9 (by decide) (by kernel_rfl))))
    | i + 12, ho => cases ho
  · intro vs W hvs hG hΦ
    obtain ⟨u0, u1, u2, u3, u4, u5, u6, u7, u8, u9, u10, u11, rfl⟩ := twelve vs hvs
    obtain ⟨cc, hcc, rfl⟩ : ∃ cc, W.heap[w.heap.size + 1]? = some (.cells cc tEx (0, 0)) ∧ cc = #[.int .i64 rk, .int .i64 ro, sV rn, .int .i64 rv, .slice pr rl cr] := hΦ 10 (by decide)
    have hu : u11 = .bool (kb && nb) := hΦ 11 (by decide)
    subst hu
    simp only [putAll, Act.put, List.setIfInBounds_toArray, List.set_cons_succ, List.set_cons_zero]
    have HCC := Lib.hid hcc
    have HGG := Lib.hid hG
    clear hΦ hG hvs hcc hx1 hx2 hx3 hx4 h1 h2 hl1 hl2 hl3
    go_wp2
    obtain ⟨m0, m1, m2, m3, m4, _⟩ := box5 HCC.out
    have hG := HGG.out
    have hE := HE0.out
    exact bodyPost_ret (v := .tuple #[.agg #[.int .i64 rk, .int .i64 ro, sV rn, .int .i64 rv, .slice pr rl cr], .bool (kb && nb)]) (by simp [results, Tryd.f49, go_sem, m0, m1, m2, m3, m4, sB_nil]) rfl
      ⟨⟨hG.os.trans hE.os, hG.tape.trans hE.tape, hG.output.trans hE.output, Nat.le_trans hE.size hG.size, fun j hj => (hG.low (by omega) (Nat.lt_of_lt_of_le hj hE.size)).trans (hE.below.block j hj)⟩, rfl⟩

end Go.Proofs.YtgkalcboklhdgaaDoor

