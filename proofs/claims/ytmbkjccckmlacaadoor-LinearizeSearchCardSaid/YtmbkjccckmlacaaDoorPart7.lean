/- Lemmas and walks for the statements of this seat, part 7, merged from smaller texts: Beginnings of histories: plain.; Verify: plain.; Sequential histories: plain.; Explanations: plain.; Operations and pairs that came in; rows of operations of the call's own, read. Printed by mk_opop.py.; linearize: awake. Printed by mk_lnaw2.py. -/
import Derived.Deep.Slices
import Derived.Deep.Fields
import Derived.ChangeSame
import Derived.Lib.SmallJoins
import Derived.SizedLaws
import Derived.Test.YtmbkjccckmlacaaDoorPart1
import Derived.Test.YtmbkjccckmlacaaDoorPart6
import Derived.Test.YtmbkjccckmlacaaDoorPart6
import Derived.Test.YtmbkjccckmlacaaDoorPart2

namespace Go.Proofs.YtmbkjccckmlacaaDoor
open Go.RowKit
set_option linter.unusedVariables false
set_option linter.unusedSimpArgs false

/-- the begins ascend -/
def AscB (l : List Cl) : Prop := ∀ i j (hi : i < l.length) (hj : j < l.length), i < j → l[i].beg < l[j].beg
theorem filter_asc (p : Int) : ∀ (l : List Cl), l.Pairwise (fun x y => x.beg < y.beg) → ∃ q, q ≤ l.length ∧ l.filter (fun x => decide (x.beg < p)) = l.take q ∧ ∀ i (h : i < l.length), i < q ↔ l[i].beg < p
  | [], _ => ⟨0, by simp, rfl, fun i h => by simp at h⟩
  | x :: t, h => by
    rw [List.pairwise_cons] at h
    by_cases hx : x.beg < p
    · obtain ⟨q, hq, h1, h2⟩ := filter_asc p t h.2
      refine ⟨q + 1, by simpa using hq, by simp [hx, h1], fun i hi => ?_⟩
      cases i with
      | zero => simp [hx]
      | succ i => simpa using h2 i (by simpa using hi)
    · refine ⟨0, by simp, ?_, fun i hi => ?_⟩
      · rw [List.take_zero, List.filter_eq_nil_iff]
        intro y hy
        rcases List.mem_cons.1 hy with rfl | hy
        · simpa using hx
        · have := h.1 y hy; simp; omega
      · cases i with
        | zero => simp; omega
        | succ i =>
        have hi' : i < t.length := by simpa using hi
        have := h.1 t[i] (List.getElem_mem hi')
        simp; omega
theorem ckH_parts {l : List Cl} (h : ckH l = 0) : l.length ≤ 100 ∧ (∀ i (hi : i < l.length), clE l i l[i] = 0) ∧ (∀ p ∈ psH l, p < (psH l).length) ∧ (psH l).Nodup ∧ (∀ i (hi : i < l.length), seqE l i l[i] = true) := by
  unfold ckH at h
  split at h
  · omega
  · next h1 =>
    split at h
    · next h2 => exact absurd h h2
    · next h2 =>
      split at h
      · omega
      · next h3 =>
        refine ⟨by omega, fun i hi => ?_, (by simpa using h3 : _ ∧ _).1, (by simpa using h3 : _ ∧ _).2, fun i hi => ?_⟩
        · have := fstE_all (by simpa using h2) i hi
          unfold callE at this
          rwa [List.getElem?_eq_getElem hi] at this
        · have := fstE_all h i hi
          rw [tskE_at hi] at this
          split at this
          · next h => exact h
          · omega
theorem filt_split (f : Int → Bool) : ∀ L : List Int, L.length = (L.filter f).length + (L.filter (fun x => !f x)).length
  | [] => rfl
  | x :: t => by
    have := filt_split f t
    cases h : f x <;> simp [h] <;> omega
theorem nd_drop (a : Int) : ∀ (L : List Int), L.Nodup → L.length ≤ (L.filter (fun x => decide (x ≠ a))).length + 1
  | [], _ => by simp
  | x :: t, h => by
    rw [List.nodup_cons] at h
    by_cases hx : x = a
    · subst hx
      have : t.filter (fun y => decide (y ≠ x)) = t := List.filter_eq_self.2 (fun y hy => by
        have : y ≠ x := fun e => h.1 (e ▸ hy)
        simpa using this)
      rw [List.filter_cons_of_neg (by simp), this]
      simp
    · have := nd_drop a t h.2
      rw [List.filter_cons_of_pos (by simpa using hx)]
      simp only [List.length_cons]
      omega
theorem nd_len (lo : Int) : ∀ (n : Nat) (L : List Int), L.Nodup → (∀ x ∈ L, lo ≤ x ∧ x < lo + n) → L.length ≤ n
  | 0, L, _, h => by
    cases L with
    | nil => simp
    | cons x t => have := h x (by simp); omega
  | n + 1, L, hn, h => by
    have h1 := nd_drop (lo + n) L hn
    have h2 := nd_len lo n (L.filter (fun x => decide (x ≠ lo + n))) (hn.filter _) (fun x hx => by
      rw [List.mem_filter] at hx
      have h3 := h x hx.1
      have h4 : x ≠ lo + n := by simpa using hx.2
      omega)
    omega
theorem begL_cons (x : Cl) (t : List Cl) (p : Int) : begL (x :: t) p = (if x.beg < p then [cutC p x] else []) ++ begL t p := by
  unfold begL
  by_cases h : x.beg < p <;> simp [h]
theorem psH_beg (p : Int) (hp : 0 ≤ p) : ∀ (l : List Cl), (∀ x ∈ l, x.en = -1 ∨ x.beg < x.en) → psH (begL l p) = (psH l).filter (fun y => decide (y < p))
  | [], _ => rfl
  | x :: t, h => by
    have hx := h x (by simp)
    have ih := psH_beg p hp t (fun y hy => h y (by simp [hy]))
    rw [psH_flat, psH_flat] at ih
    rw [begL_cons, psH_flat, psH_flat, List.flatMap_append, List.flatMap_cons, List.filter_append, ih]
    congr 1
    obtain ⟨a1, a2, a3, a4, be, en⟩ := x
    dsimp only at hx
    by_cases h1 : be < p
    · simp only [h1, if_true, List.flatMap_cons, List.flatMap_nil, List.append_nil]
      unfold cutC
      dsimp only
      by_cases h2 : p ≤ en
      · have h3 : ¬ en = -1 := by omega
        have h4 : ¬ en < p := by omega
        simp [psC, h1, h2, h3, h4]
      · have h4 : en < p := by omega
        rw [if_neg h2]
        unfold psC
        dsimp only
        split <;> simp [h1, h4]
    · simp only [h1, if_false, List.flatMap_nil]
      unfold psC
      dsimp only
      split
      · simp [h1]
      · have h4 : ¬ en < p := by omega
        simp [h1, h4]
theorem clE_parts {l : List Cl} {i : Nat} {x : Cl} (h : clE l i x = 0) : ((0 ≤ x.task ∧ x.task ≤ 15) ∧ (0 ≤ x.meth ∧ x.meth ≤ 99) ∧ inM x.arg = true ∧ inM x.res = true) ∧ 0 ≤ x.beg ∧ -1 ≤ x.en ∧ (x.en = -1 → x.res = 0) ∧ (0 < i → (l[i - 1]?.map (·.beg)).getD 0 < x.beg) ∧ (x.en ≠ -1 → x.beg < x.en) := by
  unfold clE at h
  split at h
  · omega
  · next h1 =>
    split at h
    · omega
    · next h2 =>
      split at h
      · omega
      · next h3 => exact ⟨Decidable.not_not.1 h1, by omega, by omega, by omega, by omega, by omega⟩
theorem clE_mk {l : List Cl} {i : Nat} {x : Cl} (h1 : (0 ≤ x.task ∧ x.task ≤ 15) ∧ (0 ≤ x.meth ∧ x.meth ≤ 99) ∧ inM x.arg = true ∧ inM x.res = true) (h2 : 0 ≤ x.beg) (h3 : -1 ≤ x.en) (h4 : x.en = -1 → x.res = 0) (h5 : 0 < i → (l[i - 1]?.map (·.beg)).getD 0 < x.beg) (h6 : x.en ≠ -1 → x.beg < x.en) : clE l i x = 0 := by
  unfold clE
  rw [if_neg (fun h => h h1), if_neg (by omega), if_neg (by omega)]
theorem beg_asc {l : List Cl} (h : ∀ i (hi : i < l.length), clE l i l[i] = 0) : l.Pairwise (fun x y => x.beg < y.beg) := by
  have hs : ∀ i (hi : i + 1 < l.length), l[i].beg < l[i + 1].beg := fun i hi => by
    have := (clE_parts (h (i + 1) hi)).2.2.2.2.1 (by omega)
    rw [Nat.add_sub_cancel, List.getElem?_eq_getElem (by omega)] at this
    simpa using this
  have ha : ∀ (d i : Nat) (hi : i + 1 + d < l.length), l[i].beg < l[i + 1 + d].beg := by
    intro d
    induction d with
    | zero => intro i hi; exact hs i hi
    | succ d ih => intro i hi; exact Int.lt_trans (ih i (by omega)) (hs (i + 1 + d) (by omega))
  rw [List.pairwise_iff_getElem]
  intro i j hi hj hij
  have := ha (j - i - 1) i (by omega)
  have e : i + 1 + (j - i - 1) = j := by omega
  simpa only [e] using this
theorem begL_take {l : List Cl} {p : Int} (h : ckH l = 0) : ∃ q, q ≤ l.length ∧ begL l p = (l.take q).map (cutC p) ∧ ∀ i (h : i < l.length), i < q ↔ l[i].beg < p := by
  obtain ⟨q, h1, h2, h3⟩ := filter_asc p l (beg_asc (ckH_parts h).2.1)
  exact ⟨q, h1, by unfold begL; rw [h2], h3⟩
theorem cut_len {l : List Cl} {p : Int} {q : Nat} (hq : q ≤ l.length) : ((l.take q).map (cutC p)).length = q := by simp; omega
theorem cut_get {l : List Cl} {p : Int} {q i : Nat} (hq : q ≤ l.length) (hi : i < q) : ((l.take q).map (cutC p))[i]? = some (cutC p l[i]) := by
  simp [hi, List.getElem?_eq_getElem (show i < l.length by omega)]
theorem cut_same {p : Int} {x : Cl} (h : x.en < p) : cutC p x = x := by unfold cutC; rw [if_neg (by omega)]
theorem cut_meth (p : Int) (x : Cl) : (cutC p x).meth = x.meth := by unfold cutC; split <;> rfl
theorem cut_arg (p : Int) (x : Cl) : (cutC p x).arg = x.arg := by unfold cutC; split <;> rfl
theorem cut_task (p : Int) (x : Cl) : (cutC p x).task = x.task := by unfold cutC; split <;> rfl
theorem cut_beg (p : Int) (x : Cl) : (cutC p x).beg = x.beg := by unfold cutC; split <;> rfl
theorem cut_en (p : Int) (x : Cl) : (cutC p x).en = -1 ∨ (x.en < p ∧ cutC p x = x) := by
  unfold cutC
  split
  · exact .inl rfl
  · exact .inr ⟨by omega, rfl⟩
theorem beg_ck {l : List Cl} {p : Int} (hp : 0 ≤ p) (h : ckH l = 0) : ckH (begL l p) = 0 := by
  obtain ⟨hl, hcl, hps, hnd, hsq⟩ := ckH_parts h
  obtain ⟨q, hq, hb, hqb⟩ := begL_take (p := p) h
  have hpos : ∀ x ∈ l, x.en = -1 ∨ x.beg < x.en := fun x hx => by
    obtain ⟨i, hi, rfl⟩ := List.mem_iff_getElem.1 hx
    have := (clE_parts (hcl i hi)).2.2.2.2.2
    omega
  have hps0 : ∀ y ∈ psH l, 0 ≤ y := fun y hy => by
    rw [psH_flat, List.mem_flatMap] at hy
    obtain ⟨x, hx, hy⟩ := hy
    have h1 := hpos x hx
    obtain ⟨i, hi, rfl⟩ := List.mem_iff_getElem.1 hx
    have h2 := (clE_parts (hcl i hi)).2.1
    unfold psC at hy
    split at hy
    · rw [List.mem_singleton.1 hy]; exact h2
    · simp only [List.mem_cons, List.not_mem_nil, or_false] at hy
      rcases hy with rfl | rfl <;> omega
  have hF := psH_beg p hp l hpos
  have hlen : (begL l p).length = q := by rw [hb, cut_len hq]
  unfold ckH
  rw [if_neg (by omega)]
  have c1 : ∀ n, n ≤ (begL l p).length → fstE (callE (begL l p)) n = 0 := by
    intro n
    induction n with
    | zero => intro _; rfl
    | succ n ih =>
      intro hn
      refine fstE_step (ih (by omega)) ?_
      unfold callE
      have hnq : n < q := by omega
      rw [hb, cut_get hq hnq]
      dsimp only
      obtain ⟨g1, g2, g3, g4, g5, g6⟩ := clE_parts (hcl n (by omega))
      refine clE_mk ?_ (by rw [cut_beg]; exact g2) ?_ ?_ ?_ ?_
      · refine ⟨by rw [cut_task]; exact g1.1, by rw [cut_meth]; exact g1.2.1, by rw [cut_arg]; exact g1.2.2.1, ?_⟩
        unfold cutC
        split
        · rfl
        · exact g1.2.2.2
      · unfold cutC
        split
        · exact (by decide : (-1 : Int) ≤ -1)
        · exact g3
      · unfold cutC
        split
        · intro _; rfl
        · exact g4
      · intro h0
        rw [cut_beg, cut_get hq (show n - 1 < q by omega)]
        have := g5 h0
        rw [List.getElem?_eq_getElem (by omega)] at this
        simpa [cut_beg] using this
      · intro h0
        rcases cut_en p l[n] with e | ⟨e, e'⟩
        · exact absurd e h0
        · rw [e'] at h0 ⊢; exact g6 h0
  have c3 : ∀ n, n ≤ (begL l p).length → fstE (tskE (begL l p)) n = 0 := by
    intro n
    induction n with
    | zero => intro _; rfl
    | succ n ih =>
      intro hn
      refine fstE_step (ih (by omega)) ?_
      have hnq : n < q := by omega
      have hnl : n < l.length := by omega
      have hget : (begL l p)[n]? = some (cutC p l[n]) := by rw [hb]; exact cut_get hq hnq
      unfold tskE
      rw [hget]
      dsimp only
      rw [if_pos]
      have hs := hsq n hnl
      unfold seqE at hs ⊢
      have hlast : lastH (begL l p) n (cutC p l[n]).task = (lastH l n l[n].task).map (cutC p) := by
        unfold lastH
        rw [hb, ← List.map_take, List.take_take, Nat.min_eq_left (by omega), ← List.map_reverse, List.find?_map, cut_task]
        congr 2
        funext y
        simp [cut_task]
      rw [hlast]
      cases hy : lastH l n l[n].task with
      | none => rfl
      | some y =>
        rw [hy] at hs
        simp only [Option.map_some]
        have hs' : y.en ≠ -1 ∧ y.en < l[n].beg := by simpa using hs
        have hbp := (hqb n hnl).1 hnq
        rw [cut_same (show y.en < p by omega), cut_beg]
        simpa using hs'
  rw [if_neg (by rw [c1 _ (Nat.le_refl _)]; simp), if_neg, c3 _ (Nat.le_refl _)]
  rw [Decidable.not_not]
  rw [hF]
  refine ⟨fun y hy => ?_, hnd.filter _⟩
  have hy' := List.mem_filter.1 hy
  have h1 := hps y hy'.1
  have h2 : y < p := by simpa using hy'.2
  have h3 := filt_split (fun y => decide (y < p)) (psH l)
  have h4 := nd_len p ((psH l).length - p.toNat) ((psH l).filter (fun y => !decide (y < p))) (hnd.filter _) (fun x hx => by
    have hx' := List.mem_filter.1 hx
    have h5 := hps x hx'.1
    have h6 : ¬ x < p := by simpa using hx'.2
    omega)
  have h7 := hps0 y hy'.1
  omega
theorem bef_bit {l : List Cl} {i j : Nat} : (bef l i).testBit j = (decide (j < l.length) && befF l i j) := msk_bit _ _ _
theorem must_bit {l : List Cl} {j : Nat} : (must l).testBit j = (decide (j < l.length) && mustF l j) := msk_bit _ _ _
theorem must_at {l : List Cl} {j : Nat} (hj : j < l.length) : (must l).testBit j = decide (l[j].en ≠ -1) := by
  rw [must_bit]
  unfold mustF
  rw [List.getElem?_eq_getElem hj]
  simp [hj]
theorem bef_at {l : List Cl} {i j : Nat} (hj : j < l.length) (hi : i < l.length) : (bef l i).testBit j = prc l[j] l[i] := by
  rw [bef_bit]
  unfold befF
  rw [List.getElem?_eq_getElem hj, List.getElem?_eq_getElem hi]
  simp [hj]
theorem nxt_cut {k z : Int} {l : List Cl} {p : Int} {q i : Nat} {n m : Nd} (hq : q ≤ l.length) (hqb : ∀ i (h : i < l.length), i < q ↔ l[i].beg < p) (hi : i < q) (hx : nxt k z l n i = some m) : nxt k z ((l.take q).map (cutC p)) n i = some m := by
  obtain ⟨x, h1, h2, h3, h4, h5, rfl⟩ := nxt_some hx
  have hil : i < l.length := by omega
  rw [List.getElem?_eq_getElem hil] at h1
  obtain rfl := Option.some.inj h1
  have hbi := cut_get (p := p) hq hi
  have := nxt_mk (k := k) (z := z) (n := n) hbi h2 (by
    rw [subM_iff]
    intro j hj hb
    rw [cut_len hq] at hj
    have hjl : j < l.length := by omega
    refine subM_iff.1 h3 j hjl ?_
    rw [bef_bit] at hb
    unfold befF at hb
    rw [hbi, cut_get hq hj] at hb
    rw [bef_at hjl hil]
    simp only [prc, Bool.and_eq_true, decide_eq_true_eq] at hb ⊢
    rcases cut_en p l[j] with e | ⟨e, e'⟩
    · exact absurd e hb.2.1
    · rw [e', cut_beg] at hb; exact hb.2) (by rw [cut_meth, cut_arg]; exact h4) (by
    rw [cut_meth, cut_arg]
    rcases cut_en p l[i] with e | ⟨e, e'⟩
    · exact .inl e
    · rw [e']; exact h5)
  rw [this, cut_meth, cut_arg]
theorem run_cut {k z : Int} {l : List Cl} {p : Int} {q : Nat} (hq : q ≤ l.length) (hqb : ∀ i (h : i < l.length), i < q ↔ l[i].beg < p) : ∀ (o : List Nat) (n m : Nd), runO k z l n o = some m → cmpl l m = true →
    ∃ o' m', runO k z ((l.take q).map (cutC p)) n o' = some m' ∧ cmpl ((l.take q).map (cutC p)) m' = true
  | [], n, m, hr, hc => by
    obtain rfl := Option.some.inj hr
    refine ⟨[], n, rfl, ?_⟩
    unfold cmpl at hc ⊢
    rw [subM_iff] at hc ⊢
    intro j hj hb
    rw [cut_len hq] at hj
    have hjl : j < l.length := by omega
    refine hc j hjl ?_
    rw [must_at hjl]
    rw [must_bit] at hb
    unfold mustF at hb
    rw [cut_get hq hj] at hb
    simp only [Bool.and_eq_true, decide_eq_true_eq] at hb ⊢
    rcases cut_en p l[j] with e | ⟨e, e'⟩
    · exact absurd e hb.2
    · rw [e'] at hb; exact hb.2
  | i :: t, n, m, hr, hc => by
    obtain ⟨m1, hx, hr1⟩ := runO_inv hr
    obtain ⟨x, h1, h2, h3, h4, h5, e6⟩ := nxt_some hx
    have hil : i < l.length := (List.getElem?_eq_some_iff.1 h1).1
    by_cases hi : i < q
    · obtain ⟨o', m', h7, h8⟩ := run_cut hq hqb t m1 m hr1 hc
      exact ⟨i :: o', m', runO_cons (nxt_cut hq hqb hi hx) h7, h8⟩
    · refine ⟨[], n, rfl, ?_⟩
      unfold cmpl
      rw [subM_iff]
      intro j hj hb
      rw [cut_len hq] at hj
      have hjl : j < l.length := by omega
      refine subM_iff.1 h3 j hjl ?_
      rw [bef_at hjl hil]
      rw [must_bit] at hb
      unfold mustF at hb
      rw [cut_get hq hj] at hb
      have hip := (not_congr (hqb i hil)).1 hi
      simp only [prc, Bool.and_eq_true, decide_eq_true_eq] at hb ⊢
      rcases cut_en p l[j] with e | ⟨e, e'⟩
      · exact absurd e hb.2
      · rw [e'] at hb
        exact ⟨hb.2, by omega⟩
/-- a beginning of a history that has a linearization has one -/
theorem beg_law {k z : Int} {l : List Cl} {p : Int} (hp : 0 ≤ p) (h : (srhR k z l).2.1 = true) : ckH (begL l p) = 0 ∧ (srhR k z (begL l p)).2 = (true, 0) := by
  obtain ⟨he, hc⟩ := srh_iff.1 h
  obtain ⟨h1, h2, h3⟩ := srE_parts he
  have hb := beg_ck hp h2
  obtain ⟨q, hq, hbq, hqb⟩ := begL_take (p := p) h2
  have hs : srE k z (begL l p) = 0 := by
    unfold srE
    rw [if_neg (by simpa using h1), if_neg (by simpa using hb), if_neg (by rw [hbq, cut_len hq]; omega)]
  obtain ⟨o, m, h4, h5⟩ := cnt_run.1 hc
  obtain ⟨o', m', h6, h7⟩ := run_cut hq hqb o _ m h4 h5
  refine ⟨hb, ?_⟩
  rw [← hbq] at h6 h7
  have h8 : (srhR k z (begL l p)).2.1 = true := srh_iff.2 ⟨hs, cnt_run.2 ⟨o', m', h6, h7⟩⟩
  exact Prod.ext h8 (by rw [srh_e]; exact hs)
end Go.Proofs.YtmbkjccckmlacaaDoor

namespace Go.Proofs.YtmbkjccckmlacaaDoor
open Go.RowKit
set_option linter.unusedVariables false
set_option linter.unusedSimpArgs false

/-- why a list is not one of different calls -/
def ordE (nl : Nat) : Nat → List Int → Int
  | _, [] => 0
  | s, i :: t => if i < 0 ∨ (nl : Int) ≤ i then 2 else if s.testBit i.toNat then 6 else ordE nl (s ||| 2 ^ i.toNat) t
def setO (s : Nat) (o : List Int) : Nat := o.foldl (fun s i => s ||| 2 ^ i.toNat) s
/-- why a call cannot follow -/
def folE (k z : Int) (l : List Cl) : Nd → List Int → Int
  | _, [] => 0
  | n, i :: t => match l[i.toNat]? with
    | none => 0
    | some x => if subM (bef l i.toNat) n.1 l.length = false then 9 else
      if (apM k z n.2 x.meth x.arg).2.2 ≠ 0 then (apM k z n.2 x.meth x.arg).2.2 else
      if x.en ≠ -1 ∧ (apM k z n.2 x.meth x.arg).2.1 ≠ x.res then 10 else folE k z l (n.1 ||| 2 ^ i.toNat, (apM k z n.2 x.meth x.arg).1) t
def verR (k z : Int) (l : List Cl) (o : List Int) : Int :=
  if srE k z l ≠ 0 then srE k z l else if ordE l.length 0 o ≠ 0 then ordE l.length 0 o else if cmpl l (setO 0 o, []) = false then 7 else folE k z l (beg0 k) o
theorem cmpl_set {l : List Cl} {n m : Nd} (h : n.1 = m.1) : cmpl l n = cmpl l m := by unfold cmpl; rw [h]
theorem ver_path {k z : Int} {l : List Cl} : ∀ (o : List Int) (n : Nd), ordE l.length n.1 o = 0 → folE k z l n o = 0 → ∃ o' m, o = o'.map Int.ofNat ∧ runO k z l n o' = some m ∧ m.1 = setO n.1 o
  | [], n, _, _ => ⟨[], n, rfl, rfl, rfl⟩
  | i :: t, n, h1, h2 => by
    rw [ordE] at h1
    split at h1
    · omega
    · next h3 =>
      split at h1
      · omega
      · next h4 =>
        obtain ⟨j, rfl⟩ : ∃ j : Nat, i = (j : Int) := ⟨i.toNat, by omega⟩
        have hj : j < l.length := by omega
        rw [folE] at h2
        simp only [Int.toNat_natCast] at h1 h2 h4
        rw [List.getElem?_eq_getElem hj] at h2
        dsimp only at h2
        split at h2
        · omega
        · next h5 =>
          split at h2
          · next h6 => exact absurd h2 h6
          · next h6 =>
            split at h2
            · omega
            · next h7 =>
              obtain ⟨o', m, e1, e2, e3⟩ := ver_path t (n.1 ||| 2 ^ j, (apM k z n.2 l[j].meth l[j].arg).1) h1 h2
              refine ⟨j :: o', m, by rw [e1]; rfl, runO_cons (nxt_mk (List.getElem?_eq_getElem hj) (by simpa using h4) (by simpa using h5) (by simpa using h6) ?_) e2, by rw [e3]; simp [setO]⟩
              by_cases he : l[j].en = -1
              · exact .inl he
              · exact .inr (by have := (not_and.1 h7) he; simpa using this)
theorem path_ver {k z : Int} {l : List Cl} : ∀ (o : List Nat) (n m : Nd), runO k z l n o = some m → ordE l.length n.1 (o.map Int.ofNat) = 0 ∧ folE k z l n (o.map Int.ofNat) = 0 ∧ m.1 = setO n.1 (o.map Int.ofNat)
  | [], n, m, h => by obtain rfl := Option.some.inj h; exact ⟨rfl, rfl, rfl⟩
  | i :: t, n, m, h => by
    obtain ⟨m1, hx, hr⟩ := runO_inv h
    obtain ⟨x, h1, h2, h3, h4, h5, e6⟩ := nxt_some hx
    have hi : i < l.length := (List.getElem?_eq_some_iff.1 h1).1
    obtain ⟨g1, g2, g3⟩ := path_ver t m1 m hr
    subst e6
    rw [List.map_cons, ordE, folE]
    simp only [Int.ofNat_eq_natCast, Int.toNat_natCast]
    rw [h1]
    refine ⟨?_, ?_, ?_⟩
    · rw [if_neg (by omega), if_neg (by simp [h2])]
      exact g1
    · dsimp only
      rw [if_neg (by simp [h3]), if_neg (by simpa using h4), if_neg]
      · exact g2
      · rintro ⟨e, e'⟩
        rcases h5 with h5 | h5
        · exact e h5
        · exact e' h5
    · rw [g3]; simp [setO]
theorem ver_iff {k z : Int} {l : List Cl} {o : List Int} : verR k z l o = 0 ↔ srE k z l = 0 ∧ ∃ o' m, o = o'.map Int.ofNat ∧ runO k z l (beg0 k) o' = some m ∧ cmpl l m = true := by
  unfold verR
  constructor
  · intro h
    split at h
    · next h1 => exact absurd h h1
    · next h1 =>
      split at h
      · next h2 => exact absurd h h2
      · next h2 =>
        split at h
        · omega
        · next h3 =>
          obtain ⟨o', m, e1, e2, e3⟩ := ver_path o (beg0 k) (by simpa [beg0] using h2) h
          exact ⟨by simpa using h1, o', m, e1, e2, by rw [cmpl_set (m := (setO 0 o, [])) (by rw [e3]; rfl)]; simpa using h3⟩
  · rintro ⟨h1, o', m, rfl, h2, h3⟩
    obtain ⟨g1, g2, g3⟩ := path_ver o' _ m h2
    rw [if_neg (by simpa using h1), if_neg (by simpa [beg0] using g1), if_neg]
    · exact g2
    · rw [cmpl_set (m := m) (by rw [g3]; rfl), h3]; simp
theorem map_ofNat_inj : ∀ {a b : List Nat}, a.map Int.ofNat = b.map Int.ofNat → a = b
  | [], [], _ => rfl
  | [], _ :: _, h => by simp at h
  | _ :: _, [], h => by simp at h
  | x :: a, y :: b, h => by
    simp only [List.map_cons, List.cons.injEq] at h
    rw [map_ofNat_inj h.2, Int.ofNat.inj h.1]
theorem find_ver {k z : Int} {l : List Cl} (h : (srhR k z l).2.1 = true) : verR k z l ((srhR k z l).1.map Int.ofNat) = 0 ∧ ∀ j, j < (srhR k z l).1.length → verR k z l (((srhR k z l).1.map Int.ofNat).take j) ≠ 0 := by
  obtain ⟨he, hc⟩ := srh_iff.1 h
  have hs : (srhR k z l).1 = serF k z l (l.length + 1) (beg0 k) := by
    unfold srhR serR
    rw [if_neg (by simpa using he), if_neg (by omega)]
  obtain ⟨m, h1, h2, h3⟩ := ser_run (l.length + 1) (beg0 k) (by have := lft_le l (beg0 k); omega) hc
  rw [hs]
  refine ⟨ver_iff.2 ⟨he, _, m, rfl, h1, h2⟩, fun j hj h0 => ?_⟩
  obtain ⟨-, o', m', e1, e2, e3⟩ := ver_iff.1 h0
  rw [← List.map_take] at e1
  rw [← map_ofNat_inj e1] at e2
  rw [h3 j m' hj e2] at e3
  cases e3
theorem find_no {k z : Int} {l : List Cl} (h : (srhR k z l).2.1 = false) (o : List Int) : verR k z l o ≠ 0 := fun h0 => by
  obtain ⟨he, o', m, e1, e2, e3⟩ := ver_iff.1 h0
  have := srh_iff.2 ⟨he, cnt_run.2 ⟨o', m, e2, e3⟩⟩
  rw [h] at this; cases this
theorem ver_bad {k z : Int} {l : List Cl} (h : srE k z l ≠ 0) (o : List Int) : verR k z l o = srE k z l := by unfold verR; rw [if_pos h]
end Go.Proofs.YtmbkjccckmlacaaDoor

namespace Go.Proofs.YtmbkjccckmlacaaDoor
open Go.RowKit
set_option linter.unusedVariables false
set_option linter.unusedSimpArgs false

/-- the first p calls of l are those of a sequential history; st: the states -/
structure SeqH (k z : Int) (l : List Cl) (st : Nat → List Int) (p : Nat) : Prop where
  le : p ≤ l.length
  st0 : st 0 = iniR k
  beg : ∀ i (hi : i < l.length), l[i].beg = 2 * (i : Int)
  en : ∀ i (hi : i < l.length), l[i].en = 2 * (i : Int) + 1
  ap : ∀ i (hi : i < l.length), i < p → apM k z (st i) l[i].meth l[i].arg = (st (i + 1), l[i].res, 0)
theorem low_bit (i j : Nat) : (2 ^ i - 1).testBit j = decide (j < i) := Nat.testBit_two_pow_sub_one i j
theorem low_next (i : Nat) : (2 ^ i - 1) ||| 2 ^ i = 2 ^ (i + 1) - 1 := by
  apply Nat.eq_of_testBit_eq
  intro j
  rw [Nat.testBit_or, low_bit, low_bit, Nat.testBit_two_pow]
  by_cases h : i = j
  · subst h; simp
  · rw [decide_eq_false h, Bool.or_false, decide_eq_decide]; omega
def ndQ (st : Nat → List Int) (i : Nat) : Nd := (2 ^ i - 1, st i)
theorem seq_bef {k z : Int} {l : List Cl} {st : Nat → List Int} {p i j : Nat} (h : SeqH k z l st p) (hi : i < l.length) (hj : j < l.length) : (bef l i).testBit j = decide (j < i) := by
  rw [bef_at hj hi]
  unfold prc
  rw [h.en j hj, h.beg i hi, decide_eq_decide]
  omega
theorem seq_nxt {k z : Int} {l : List Cl} {st : Nat → List Int} {p i : Nat} (h : SeqH k z l st p) (hi : i < p) : nxt k z l (ndQ st i) i = some (ndQ st (i + 1)) := by
  have hil : i < l.length := Nat.lt_of_lt_of_le hi h.le
  have ha := h.ap i hil hi
  have := nxt_mk (k := k) (z := z) (n := ndQ st i) (List.getElem?_eq_getElem hil) (by simp [ndQ, low_bit]) (subM_iff.2 fun j hj hb => by
    rw [seq_bef h hil hj] at hb
    simp only [ndQ, low_bit]
    exact hb) (by simp only [ndQ, ha]) (.inr (by simp only [ndQ, ha]))
  rw [this]
  simp only [ndQ, ha, low_next]
theorem seq_only {k z : Int} {l : List Cl} {st : Nat → List Int} {p i j : Nat} {m : Nd} (h : SeqH k z l st p) (hi : i ≤ l.length) (hx : nxt k z l (ndQ st i) j = some m) : j = i := by
  obtain ⟨x, h1, h2, h3, -⟩ := nxt_some hx
  have hj : j < l.length := (List.getElem?_eq_some_iff.1 h1).1
  simp only [ndQ, low_bit] at h2
  have h2 : ¬ j < i := by simpa using h2
  rcases Nat.lt_trichotomy j i with e | e | e
  · exact absurd e h2
  · exact e
  · have := subM_iff.1 h3 i (by omega) (by rw [seq_bef h hj (by omega)]; simpa using e)
    simp [ndQ, low_bit] at this
theorem seq_cmpl {k z : Int} {l : List Cl} {st : Nat → List Int} {p i : Nat} (h : SeqH k z l st p) (hi : i ≤ l.length) : cmpl l (ndQ st i) = decide (i = l.length) := by
  rw [Bool.eq_iff_iff]
  unfold cmpl
  rw [subM_iff, decide_eq_true_eq]
  constructor
  · intro g
    rcases Nat.lt_or_ge i l.length with hl | hl
    · have := g i hl (by rw [must_at hl, h.en i hl]; simp; omega)
      simp [ndQ, low_bit] at this
    · omega
  · rintro rfl j hj _
    simp [ndQ, low_bit, hj]
theorem fm_one {α : Type} (f : Nat → Option α) (i : Nat) (a : α) : ∀ n, i < n → f i = some a → (∀ j, j ≠ i → f j = none) → (List.range n).filterMap f = [a]
  | 0, h, _, _ => by omega
  | n + 1, h, ha, hn => by
    rw [List.range_succ, List.filterMap_append]
    rcases Nat.lt_or_ge i n with hi | hi
    · rw [fm_one f i a n hi ha hn]
      simp [hn n (by omega)]
    · obtain rfl : i = n := by omega
      have : (List.range i).filterMap f = [] := by
        rw [List.filterMap_eq_nil_iff]
        intro j hj
        exact hn j (by have := List.mem_range.1 hj; omega)
      rw [this]
      simp [ha]
theorem seq_nxs {k z : Int} {l : List Cl} {st : Nat → List Int} {p i : Nat} (h : SeqH k z l st p) (hi : i < p) : nxs k z l (ndQ st i) = [(i, ndQ st (i + 1))] := by
  unfold nxs
  refine fm_one _ i _ _ (Nat.lt_of_lt_of_le hi h.le) (by rw [seq_nxt h hi]; rfl) (fun j hj => ?_)
  cases hx : nxt k z l (ndQ st i) j with
  | none => rfl
  | some m => exact absurd (seq_only h (Nat.le_of_lt (Nat.lt_of_lt_of_le hi h.le)) hx) hj
theorem seq_cnt {k z : Int} {l : List Cl} {st : Nat → List Int} {p : Nat} (h : SeqH k z l st p) : ∀ d i, i + d = p → cnt k z l (ndQ st i) = cnt k z l (ndQ st p)
  | 0, i, e => by rw [show i = p by omega]
  | d + 1, i, e => by
    have hip : i < p := by omega
    have := h.le
    rw [cnt_eq, seq_cmpl h (by omega), if_neg (by simp; omega), seq_nxs h hip]
    simp only [List.foldl_cons, List.foldl_nil]
    rw [seq_cnt h d (i + 1) (by omega)]
    have := cnt_le k z l (ndQ st p)
    omega
theorem seq_ser {k z : Int} {l : List Cl} {st : Nat → List Int} (h : SeqH k z l st l.length) (h1 : cnt k z l (ndQ st l.length) = 1) : ∀ f i, i ≤ l.length → l.length - i < f → serF k z l f (ndQ st i) = List.range' i (l.length - i)
  | 0, i, _, e => by omega
  | f + 1, i, hi, e => by
    rw [serF, seq_cmpl h hi]
    by_cases hl : i = l.length
    · subst hl; simp
    · rw [if_neg (by simpa using hl), seq_nxs h (by omega)]
      have : cnt k z l (ndQ st (i + 1)) = 1 := (seq_cnt h (l.length - (i + 1)) (i + 1) (by omega)).trans h1
      rw [List.find?_cons_of_pos (by simp [this])]
      dsimp only
      rw [seq_ser h h1 f (i + 1) (by omega) (by omega), show l.length - i = (l.length - (i + 1)) + 1 by omega, List.range'_succ]
theorem beg_nd {k z : Int} {l : List Cl} {st : Nat → List Int} {p : Nat} (h : SeqH k z l st p) : beg0 k = ndQ st 0 := by unfold beg0 ndQ; rw [h.st0]
/-- a sequential history has one linearization -/
theorem seq_one {k z : Int} {l : List Cl} {st : Nat → List Int} (h : SeqH k z l st l.length) (he : srE k z l = 0) : srhR k z l = (List.range l.length, true, 0) ∧ cotR k z l 100 = (1, 0) := by
  have h1 : cnt k z l (ndQ st l.length) = 1 := by rw [cnt_eq, seq_cmpl h (Nat.le_refl _)]; simp
  have h0 : cnt k z l (beg0 k) = 1 := by rw [beg_nd h]; exact (seq_cnt h l.length 0 (by omega)).trans h1
  refine ⟨?_, ?_⟩
  · unfold srhR serR
    rw [if_neg (by simpa using he), if_neg (by omega), beg_nd h, seq_ser h h1 _ 0 (by omega) (by omega), List.range_eq_range', Nat.sub_zero]
  · unfold cotR
    rw [if_neg (by simpa using he), if_neg (by omega), h0]
    rfl
/-- with another result there is none -/
theorem seq_none {k z : Int} {l : List Cl} {st : Nat → List Int} {p : Nat} (h : SeqH k z l st p) (hp : p < l.length) (hr : (apM k z (st p) l[p].meth l[p].arg).2.1 ≠ l[p].res) : (srhR k z l).2.1 = false := by
  have h1 : cnt k z l (ndQ st p) = 0 := by
    rw [cnt_eq, seq_cmpl h (by omega), if_neg (by simp; omega)]
    have : nxs k z l (ndQ st p) = [] := by
      unfold nxs
      rw [List.filterMap_eq_nil_iff]
      intro j hj
      cases hx : nxt k z l (ndQ st p) j with
      | none => rfl
      | some m =>
        obtain rfl := seq_only h (by omega) hx
        obtain ⟨x, g1, -, -, -, g5, -⟩ := nxt_some hx
        rw [List.getElem?_eq_getElem hp] at g1
        obtain rfl := Option.some.inj g1
        rcases g5 with g5 | g5
        · rw [h.en j hp] at g5; omega
        · exact absurd g5 hr
    rw [this]; rfl
  cases hc : (srhR k z l).2.1 with
  | false => rfl
  | true =>
    have := (srh_iff.1 hc).2
    rw [beg_nd h, seq_cnt h p 0 (by omega), h1] at this
    omega
end Go.Proofs.YtmbkjccckmlacaaDoor

namespace Go.Proofs.YtmbkjccckmlacaaDoor
open Go.RowKit
set_option linter.unusedVariables false
set_option linter.unusedSimpArgs false

theorem fold_max_get (f : Nat × Nd → Nat) : ∀ (L : List (Nat × Nd)) (s : Nat), s ≤ L.foldl (fun s p => max s (1 + f p)) s ∧ (∀ p ∈ L, 1 + f p ≤ L.foldl (fun s p => max s (1 + f p)) s) ∧ (L.foldl (fun s p => max s (1 + f p)) s = s ∨ ∃ p ∈ L, L.foldl (fun s p => max s (1 + f p)) s = 1 + f p)
  | [], s => ⟨Nat.le_refl _, by simp, .inl rfl⟩
  | p :: t, s => by
    rw [List.foldl_cons]
    obtain ⟨h1, h2, h3⟩ := fold_max_get f t (max s (1 + f p))
    refine ⟨by omega, fun q hq => ?_, ?_⟩
    · rcases List.mem_cons.1 hq with rfl | hq
      · omega
      · exact h2 q hq
    · rcases h3 with h3 | ⟨q, hq, h3⟩
      · rw [h3]
        rcases Nat.le_total s (1 + f p) with h | h
        · exact .inr ⟨p, by simp, by omega⟩
        · exact .inl (by omega)
      · exact .inr ⟨q, by simp [hq], h3⟩
theorem exp_run {k z : Int} {l : List Cl} : ∀ (r : Nat) (n : Nd), lon k z l n = r → runO k z l n (expF k z l r n).1 = some (expF k z l r n).2 ∧ nxs k z l (expF k z l r n).2 = []
  | 0, n, h => by
    refine ⟨rfl, ?_⟩
    show nxs k z l n = []
    rw [lon_eq] at h
    have := (fold_max_get (fun p => lon k z l p.2) (nxs k z l n) 0).2.1
    cases hn : nxs k z l n with
    | nil => rfl
    | cons p t =>
      have h1 := this p (by rw [hn]; simp)
      omega
  | r + 1, n, h => by
    rw [expF]
    have h3 := (fold_max_get (fun p => lon k z l p.2) (nxs k z l n) 0).2.2
    rw [lon_eq] at h
    rw [h] at h3
    cases hf : (nxs k z l n).find? (fun p => decide (lon k z l p.2 = r)) with
    | none =>
      rcases h3 with h3 | ⟨p, hp, h3⟩
      · omega
      · have := List.find?_eq_none.1 hf p hp
        simp at this; omega
    | some p =>
      dsimp only
      have hx := (mem_nxs.1 (List.mem_of_find?_eq_some hf)).2
      have hl : lon k z l p.2 = r := by simpa using List.find?_some hf
      obtain ⟨h1, h2⟩ := exp_run r p.2 hl
      exact ⟨runO_cons hx h1, h2⟩
theorem run_snoc {k z : Int} {l : List Cl} : ∀ (a b : List Nat) (n : Nd), runO k z l n (a ++ b) = (runO k z l n a).bind (fun m => runO k z l m b)
  | [], b, n => rfl
  | i :: a, b, n => by
    simp only [List.cons_append, runO]
    cases nxt k z l n i with
    | none => rfl
    | some m => simp only [Option.bind_some]; exact run_snoc a b m
theorem run_bit {k z : Int} {l : List Cl} : ∀ (o : List Nat) (n m : Nd), runO k z l n o = some m → ∀ j, m.1.testBit j = (n.1.testBit j || decide (j ∈ o))
  | [], n, m, h, j => by obtain rfl := Option.some.inj h; simp
  | i :: t, n, m, h, j => by
    obtain ⟨m1, hx, hr⟩ := runO_inv h
    obtain ⟨x, h1, h2, h3, h4, h5, rfl⟩ := nxt_some hx
    rw [run_bit t _ m hr j, Nat.testBit_or, Nat.testBit_two_pow]
    by_cases e : i = j
    · subst e; simp
    · have e' : ¬ j = i := fun h => e h.symm
      simp [e, e']
/-- can a call follow, that is not in the set -/
def canF (k z : Int) (l : List Cl) (n : Nd) (i : Nat) : Bool := match l[i]? with
  | none => false
  | some x => subM (bef l i) n.1 l.length && decide ((apM k z n.2 x.meth x.arg).2.2 = 0 ∧ (x.en = -1 ∨ (apM k z n.2 x.meth x.arg).2.1 = x.res))
theorem can_yes {k z : Int} {l : List Cl} {n m : Nd} {i : Nat} (h : nxt k z l n i = some m) : canF k z l n i = true := by
  obtain ⟨x, h1, h2, h3, h4, h5, -⟩ := nxt_some h
  unfold canF
  rw [h1]
  simp only [h3, Bool.true_and, decide_eq_true_eq]
  exact ⟨h4, h5⟩
theorem can_no {k z : Int} {l : List Cl} {n : Nd} {i : Nat} (h : nxt k z l n i = none) (hb : n.1.testBit i = false) : canF k z l n i = false := by
  cases hc : canF k z l n i with
  | false => rfl
  | true =>
    unfold canF at hc
    split at hc
    · cases hc
    · next x hx =>
      simp only [Bool.and_eq_true, decide_eq_true_eq] at hc
      rw [nxt_mk hx hb hc.1 hc.2.1 hc.2.2] at h
      cases h
/-- an explanation that is no linearization -/
structure XpH (k z : Int) (l : List Cl) (part : List Nat) (nd : Nat → Nd) (c : Nat) : Prop where
  nd0 : nd 0 = beg0 k
  step : ∀ i (hi : i < part.length), nxt k z l (nd i) part[i] = some (nd (i + 1))
  bits : ∀ i, i ≤ part.length → ∀ j, (nd i).1.testBit j = decide (j ∈ part.take i)
  stop : ∀ x, x ∉ part → nxt k z l (nd part.length) x = none
  clt : c < l.length
  cen : ∀ (h : c < l.length), l[c].en ≠ -1
  cno : c ∉ part
theorem xpl_law {k z : Int} {l : List Cl} (he : srE k z l = 0) (hn : (srhR k z l).2.1 = false) : ∃ part nd c, xplR k z l = (part, ((c : Nat) : Int), 0) ∧ XpH k z l part nd c := by
  have hc : ¬ 0 < cnt k z l (beg0 k) := fun h => by rw [srh_iff.2 ⟨he, h⟩] at hn; cases hn
  have hs : ¬ (serR k z l).2 = true := fun h => hc (serR_true.1 h)
  obtain ⟨h1, h2⟩ := exp_run (lon k z l (beg0 k)) (beg0 k) rfl
  have hx : xplR k z l = ((expF k z l (lon k z l (beg0 k)) (beg0 k)).1, ixR l (expF k z l (lon k z l (beg0 k)) (beg0 k)).2, 0) := by
    unfold xplR
    rw [if_neg (by simpa using he), if_neg hs]
  generalize (expF k z l (lon k z l (beg0 k)) (beg0 k)).1 = part at *
  generalize (expF k z l (lon k z l (beg0 k)) (beg0 k)).2 = m at *
  have hm : cmpl l m = false := by
    cases h : cmpl l m with
    | false => rfl
    | true => exact absurd (cnt_run.2 ⟨part, m, h1, h⟩) hc
  have hb := run_bit part _ m h1
  have hb0 : ∀ j, (beg0 k).1.testBit j = false := fun j => by simp [beg0]
  have hpre : ∀ i, ∃ n, runO k z l (beg0 k) (part.take i) = some n ∧ runO k z l n (part.drop i) = some m := fun i => by
    have := h1
    rw [← List.take_append_drop i part, run_snoc, Option.bind_eq_some_iff] at this
    exact this
  obtain ⟨j, hj, hje, hjn⟩ : ∃ j, ∃ hj : j < l.length, l[j].en ≠ -1 ∧ m.1.testBit j = false := by
    refine Classical.byContradiction fun hno => ?_
    have : cmpl l m = true := subM_iff.2 fun j hj hmu => by
      rw [must_at hj] at hmu
      cases hjb : m.1.testBit j with
      | true => rfl
      | false => exact absurd ⟨j, hj, by simpa using hmu, hjb⟩ hno
    rw [hm] at this; cases this
  have hix : ∃ c : Nat, ixR l m = (c : Int) ∧ c < l.length ∧ (must l).testBit c = true ∧ m.1.testBit c = false := by
    unfold ixR
    cases hf : (List.range l.length).find? (fun i => (must l).testBit i && !m.1.testBit i) with
    | none =>
      have := List.find?_eq_none.1 hf j (List.mem_range.2 hj)
      rw [must_at hj, hjn] at this
      simp at this
      exact absurd this hje
    | some c =>
      have g1 := List.find?_some hf
      have g2 := List.mem_range.1 (List.mem_of_find?_eq_some hf)
      simp only [Bool.and_eq_true, Bool.not_eq_true'] at g1
      exact ⟨c, rfl, g2, g1.1, g1.2⟩
  obtain ⟨c, hc1, hc2, hc3, hc4⟩ := hix
  obtain ⟨nd, hnd⟩ : ∃ nd : Nat → Nd, ∀ i, runO k z l (beg0 k) (part.take i) = some (nd i) ∧ runO k z l (nd i) (part.drop i) = some m := ⟨fun i => Classical.choose (hpre i), fun i => Classical.choose_spec (hpre i)⟩
  refine ⟨part, nd, c, by rw [hx, hc1], ?_⟩
  have hlast : nd part.length = m := by
    have := (hnd part.length).1
    rw [List.take_length] at this
    exact (Option.some.inj (h1.symm.trans this)).symm
  constructor
  · have := (hnd 0).1
    exact (Option.some.inj this).symm
  · intro i hi
    have h3 := (hnd i).2
    rw [List.drop_eq_getElem_cons hi] at h3
    obtain ⟨m1, g1, g2⟩ := runO_inv h3
    have h4 := (hnd (i + 1)).1
    rw [List.take_succ_eq_append_getElem hi, run_snoc, (hnd i).1, Option.bind_some] at h4
    rw [g1]
    simp only [runO, g1, Option.bind_some] at h4
    exact h4
  · intro i _ j
    rw [run_bit _ _ _ (hnd i).1 j, hb0, Bool.false_or]
  · intro x _
    rw [hlast]
    cases hx : nxt k z l m x with
    | none => rfl
    | some m' => have := nxs_of hx; rw [h2] at this; simp at this
  · exact hc2
  · intro h
    rw [must_at hc2] at hc3
    simpa using hc3
  · intro h
    rw [hb c, hb0] at hc4
    simp at hc4
    exact hc4 h
end Go.Proofs.YtmbkjccckmlacaaDoor

namespace Go.Proofs.YtmbkjccckmlacaaDoor
open Go.RowKit Go.ChangeShapes Go.WideShapes Go.Deep Go.Joins
set_option linter.unusedVariables false
set_option linter.unusedSimpArgs false

theorem add_zero {a : Addr} {w : World} {v : Value} (h : w.cell? (a.add 0) = some v) : a = ⟨a.block, a.off, none⟩ := by
  obtain ⟨b, o, s⟩ := a
  have hs : s = none := World.cell?_spot (a := ⟨b, o, s⟩) (by simpa [Addr.add] using h)
  rw [hs]
theorem add_cell {a : Addr} {j : Nat} {w : World} {v : Value} (h : w.cell? (a.add j) = some v) : w.cell? ⟨a.block, a.off + j, none⟩ = some v := by
  by_cases h0 : j = 0
  · subst h0
    have h1 := add_zero h
    rw [h1] at h
    simpa [Addr.add] using h
  · unfold Addr.add at h
    rw [if_neg h0] at h
    exact h
theorem cells_at {w : World} {base : Nat} {a : Addr} {n : Nat} {cs : List Value} (h : w.cells? base a n = some cs) : ∀ j v, j < n → cs[j]? = some v → w.cell? (a.add j) = some v := by
  intro j v hj hv
  obtain ⟨_, _, hat⟩ := World.cells?_some h
  exact (hat j hj).trans hv
theorem intCells : Tryd.prog.cellsOf 3 = 1 := by kernel_rfl
theorem opCells1 : Tryd.prog.cellsOf 48 = 6 := by kernel_rfl
theorem edCells1 : Tryd.prog.cellsOf 56 = 2 := by kernel_rfl
theorem mdCells1 : Tryd.prog.cellsOf 23 = 2 := by kernel_rfl
/-- operations that came in: where they lie, and how many -/
def OpIn (W : World) (p : Option Addr) (c : Nat) (l : List Cl) : Prop := HsAt W p l ∧ l.length ≤ c ∧ l.length ≤ maxLen ∧ ∀ x ∈ l, (Lit.int .i64 x.task).wf = true ∧ (Lit.int .i64 x.meth).wf = true ∧ (Lit.int .i64 x.arg).wf = true ∧ (Lit.int .i64 x.res).wf = true ∧ (Lit.int .i64 x.beg).wf = true ∧ (Lit.int .i64 x.en).wf = true
/-- pairs that came in -/
def EdAt (w : World) (p : Option Addr) (l : List (Int × Int)) : Prop := ∀ i (h : i < l.length), ∃ b o, p = some ⟨b, o, none⟩ ∧ w.cell? ⟨b, o + i * 2, none⟩ = some (.int .i64 l[i].1) ∧ w.cell? ⟨b, o + i * 2 + 1, none⟩ = some (.int .i64 l[i].2)
theorem EdAt.ext {w W : World} {p : Option Addr} {l : List (Int × Int)} (h : EdAt w p l) (hE : Ext w W) : EdAt W p l := fun i hi => by
  obtain ⟨b, o, e, c0, c1⟩ := h i hi
  have k : ∀ {a : Addr} {v : Value}, w.cell? a = some v → W.cell? a = some v := fun hc => (hE.below.cell (cell_lt hc)).trans hc
  exact ⟨b, o, e, k c0, k c1⟩
def EdIn (W : World) (p : Option Addr) (c : Nat) (l : List (Int × Int)) : Prop := EdAt W p l ∧ l.length ≤ c ∧ l.length ≤ maxLen ∧ ∀ x ∈ l, (Lit.int .i64 x.1).wf = true ∧ (Lit.int .i64 x.2).wf = true
set_option maxRecDepth 100000 in
/-- a model that came in -/
theorem open_md {H : Type} {enc : TypeId × Value → H} {r : Reach} {b0 : Nat} {W : World} {base : Nat} {sp : Nat → Bool} {hd : Bool} {v : Value} {d : DataW H} {ps : List MemPlace} (hval : Value.okWide Tryd.prog W r b0 23 v)
    (h : DataW.Trod enc Tryd.prog W base sp hd 23 v d ps) : ∃ k z : Int, v = .agg #[.int .i64 k, .int .i64 z] ∧ (Lit.int .i64 k).wf = true ∧ (Lit.int .i64 z).wf = true := by
  obtain ⟨cs, rfl, hsz⟩ := okWide_struct Tryd.underlying23 hval
  obtain ⟨fuel, hf0⟩ := h
  obtain ⟨xs, n, hn, hxe, hl, hlen, hf⟩ := DataW.trod_struct Tryd.underlying23 hf0
  rw [mdCells1] at hl
  obtain ⟨cs⟩ := cs
  match cs, hl, xs, hlen with
  | [c0, c1], _, [y0, y1], _ =>
    have h0 : DataW.trod enc Tryd.prog W base sp hd n 3 [c0] = some y0 := by simpa [intCells, Value.cells] using hf 0 _ rfl
    have h1 : DataW.trod enc Tryd.prog W base sp hd n 3 [c1] = some y1 := by simpa [intCells, Value.cells] using hf 1 _ rfl
    obtain ⟨k, hk, -, wk⟩ := DataW.trod_int Tryd.underlying3 h0
    obtain ⟨z, hz, -, wz⟩ := DataW.trod_int Tryd.underlying3 h1
    cases hk; cases hz
    exact ⟨k, z, rfl, wk, wz⟩
set_option maxRecDepth 100000 in
theorem open_ops {H : Type} {enc : TypeId × Value → H} {W : World} {base : Nat} {sp : Nat → Bool} {hd : Bool} {a0 : Option Addr} {len0 cap0 : Nat} {d : DataW H} {ps : List MemPlace}
    (h : DataW.Trod enc Tryd.prog W base sp hd 24 (.slice a0 len0 cap0) d ps) : ∃ l : List Cl, len0 = l.length ∧ OpIn W a0 cap0 l := by
  obtain ⟨fuel, h⟩ := h
  rcases DataW.trod_slice Tryd.underlying24 h with ⟨hc, he⟩ | ⟨a, len, cap, elems, rest, n', hn', hc, he, hb, hl, hm, hel, hat, _, _⟩
  · obtain ⟨rfl, rfl⟩ := Prod.mk.inj he
    simp [Value.cells] at hc
    obtain ⟨rfl, rfl, rfl⟩ := hc
    exact ⟨[], rfl, fun i hi => absurd hi (Nat.not_lt_zero _), Nat.le_refl _, Nat.zero_le _, fun t ht => by cases ht⟩
  · obtain ⟨rfl, rfl⟩ := Prod.mk.inj he
    simp [Value.cells] at hc
    obtain ⟨rfl, rfl, rfl⟩ := hc
    have hE : ∀ i, i < len0 → ∃ b : Cl, ((Lit.int .i64 b.task).wf = true ∧ (Lit.int .i64 b.meth).wf = true ∧ (Lit.int .i64 b.arg).wf = true ∧ (Lit.int .i64 b.res).wf = true ∧ (Lit.int .i64 b.beg).wf = true ∧ (Lit.int .i64 b.en).wf = true) ∧ W.cell? (a.add (i * 6 + 0)) = some (.int .i64 b.task) ∧ W.cell? (a.add (i * 6 + 1)) = some (.int .i64 b.meth) ∧ W.cell? (a.add (i * 6 + 2)) = some (.int .i64 b.arg) ∧ W.cell? (a.add (i * 6 + 3)) = some (.int .i64 b.res) ∧ W.cell? (a.add (i * 6 + 4)) = some (.int .i64 b.beg) ∧ W.cell? (a.add (i * 6 + 5)) = some (.int .i64 b.en) := by
      intro i hi
      have hx := hat i hi
      rw [opCells1, List.getElem?_eq_getElem (by omega)] at hx
      obtain ⟨cs', hcs, hx⟩ := Option.bind_eq_some_iff.1 hx
      obtain ⟨xs, n, hn, hxe, hl, hlen, hf⟩ := DataW.trod_struct Tryd.underlying48 hx
      rw [opCells1] at hl
      match cs', hl, xs, hlen, hcs with
      | [c0, c1, c2, c3, c4, c5], _, [y0, y1, y2, y3, y4, y5], _, hcs =>
        have h0 : DataW.trod enc Tryd.prog W base sp hd n 3 [c0] = some y0 := by simpa [intCells] using hf 0 _ rfl
        have h1 : DataW.trod enc Tryd.prog W base sp hd n 3 [c1] = some y1 := by simpa [intCells] using hf 1 _ rfl
        have h2 : DataW.trod enc Tryd.prog W base sp hd n 3 [c2] = some y2 := by simpa [intCells] using hf 2 _ rfl
        have h3 : DataW.trod enc Tryd.prog W base sp hd n 3 [c3] = some y3 := by simpa [intCells] using hf 3 _ rfl
        have h4 : DataW.trod enc Tryd.prog W base sp hd n 3 [c4] = some y4 := by simpa [intCells] using hf 4 _ rfl
        have h5 : DataW.trod enc Tryd.prog W base sp hd n 3 [c5] = some y5 := by simpa [intCells] using hf 5 _ rfl
        obtain ⟨x0, hx0, -, w0⟩ := DataW.trod_int Tryd.underlying3 h0
        obtain ⟨x1, hx1, -, w1⟩ := DataW.trod_int Tryd.underlying3 h1
        obtain ⟨x2, hx2, -, w2⟩ := DataW.trod_int Tryd.underlying3 h2
        obtain ⟨x3, hx3, -, w3⟩ := DataW.trod_int Tryd.underlying3 h3
        obtain ⟨x4, hx4, -, w4⟩ := DataW.trod_int Tryd.underlying3 h4
        obtain ⟨x5, hx5, -, w5⟩ := DataW.trod_int Tryd.underlying3 h5
        cases hx0; cases hx1; cases hx2; cases hx3; cases hx4; cases hx5
        refine ⟨⟨x0, x1, x2, x3, x4, x5⟩, ⟨w0, w1, w2, w3, w4, w5⟩, ?_, ?_, ?_, ?_, ?_, ?_⟩
        · rw [← Go.Deep.add_add]; exact cells_at hcs 0 _ (by omega) rfl
        · rw [← Go.Deep.add_add]; exact cells_at hcs 1 _ (by omega) rfl
        · rw [← Go.Deep.add_add]; exact cells_at hcs 2 _ (by omega) rfl
        · rw [← Go.Deep.add_add]; exact cells_at hcs 3 _ (by omega) rfl
        · rw [← Go.Deep.add_add]; exact cells_at hcs 4 _ (by omega) rfl
        · rw [← Go.Deep.add_add]; exact cells_at hcs 5 _ (by omega) rfl
    haveI : Inhabited Cl := ⟨⟨0, 0, 0, 0, 0, 0⟩⟩
    obtain ⟨f, hf⟩ := choose_lt hE
    refine ⟨(List.range len0).map f, by simp, ?_, by simpa using hl, ?_, ?_⟩
    · intro j hj
      have hj' : j < len0 := by simpa using hj
      obtain ⟨_, g0, g1, g2, g3, g4, g5⟩ := hf j hj'
      have ha : a = ⟨a.block, a.off, none⟩ := add_zero (hf 0 (by omega)).2.1
      refine ⟨a.block, a.off, congrArg some ha, ?_⟩
      simp only [List.getElem_map, List.getElem_range]
      exact ⟨add_cell g0, add_cell g1, add_cell g2, add_cell g3, add_cell g4, add_cell g5⟩
    · rw [List.length_map, List.length_range]; exact Nat.le_trans hl hm
    · intro b hb
      obtain ⟨i, hi, rfl⟩ := List.mem_map.1 hb
      exact (hf i (List.mem_range.1 hi)).1
set_option maxRecDepth 100000 in
theorem open_eds {H : Type} {enc : TypeId × Value → H} {W : World} {base : Nat} {sp : Nat → Bool} {hd : Bool} {a0 : Option Addr} {len0 cap0 : Nat} {d : DataW H} {ps : List MemPlace}
    (h : DataW.Trod enc Tryd.prog W base sp hd 44 (.slice a0 len0 cap0) d ps) : ∃ l : List (Int × Int), len0 = l.length ∧ EdIn W a0 cap0 l := by
  obtain ⟨fuel, h⟩ := h
  rcases DataW.trod_slice Tryd.underlying44 h with ⟨hc, he⟩ | ⟨a, len, cap, elems, rest, n', hn', hc, he, hb, hl, hm, hel, hat, _, _⟩
  · obtain ⟨rfl, rfl⟩ := Prod.mk.inj he
    simp [Value.cells] at hc
    obtain ⟨rfl, rfl, rfl⟩ := hc
    exact ⟨[], rfl, fun i hi => absurd hi (Nat.not_lt_zero _), Nat.le_refl _, Nat.zero_le _, fun t ht => by cases ht⟩
  · obtain ⟨rfl, rfl⟩ := Prod.mk.inj he
    simp [Value.cells] at hc
    obtain ⟨rfl, rfl, rfl⟩ := hc
    have hE : ∀ i, i < len0 → ∃ b : (Int × Int), ((Lit.int .i64 b.1).wf = true ∧ (Lit.int .i64 b.2).wf = true) ∧ W.cell? (a.add (i * 2 + 0)) = some (.int .i64 b.1) ∧ W.cell? (a.add (i * 2 + 1)) = some (.int .i64 b.2) := by
      intro i hi
      have hx := hat i hi
      rw [edCells1, List.getElem?_eq_getElem (by omega)] at hx
      obtain ⟨cs', hcs, hx⟩ := Option.bind_eq_some_iff.1 hx
      obtain ⟨xs, n, hn, hxe, hl, hlen, hf⟩ := DataW.trod_struct Tryd.underlying56 hx
      rw [edCells1] at hl
      match cs', hl, xs, hlen, hcs with
      | [c0, c1], _, [y0, y1], _, hcs =>
        have h0 : DataW.trod enc Tryd.prog W base sp hd n 3 [c0] = some y0 := by simpa [intCells] using hf 0 _ rfl
        have h1 : DataW.trod enc Tryd.prog W base sp hd n 3 [c1] = some y1 := by simpa [intCells] using hf 1 _ rfl
        obtain ⟨x0, hx0, -, w0⟩ := DataW.trod_int Tryd.underlying3 h0
        obtain ⟨x1, hx1, -, w1⟩ := DataW.trod_int Tryd.underlying3 h1
        cases hx0; cases hx1
        refine ⟨⟨x0, x1⟩, ⟨w0, w1⟩, ?_, ?_⟩
        · rw [← Go.Deep.add_add]; exact cells_at hcs 0 _ (by omega) rfl
        · rw [← Go.Deep.add_add]; exact cells_at hcs 1 _ (by omega) rfl
    haveI : Inhabited (Int × Int) := ⟨(0, 0)⟩
    obtain ⟨f, hf⟩ := choose_lt hE
    refine ⟨(List.range len0).map f, by simp, ?_, by simpa using hl, ?_, ?_⟩
    · intro j hj
      have hj' : j < len0 := by simpa using hj
      obtain ⟨_, g0, g1⟩ := hf j hj'
      have ha : a = ⟨a.block, a.off, none⟩ := add_zero (hf 0 (by omega)).2.1
      refine ⟨a.block, a.off, congrArg some ha, ?_⟩
      simp only [List.getElem_map, List.getElem_range]
      exact ⟨add_cell g0, add_cell g1⟩
    · rw [List.length_map, List.length_range]; exact Nat.le_trans hl hm
    · intro b hb
      obtain ⟨i, hi, rfl⟩ := List.mem_map.1 hb
      exact (hf i (List.mem_range.1 hi)).1
theorem RowO.look {base : Nat} {v : Value} {l : List Cl} {w : World} (h : RowO base v l w) : ∃ x cc, v = .slice x l.length cc ∧ HsAt w x l := by
  obtain ⟨h1, h2⟩ := h
  rcases h2 with ⟨e, h0⟩ | ⟨b, cap, cur, rfl, hb, hg, hn, hm, hs, ht⟩
  · exact ⟨none, 0, by rw [e, h0], fun m hm => by omega⟩
  · refine ⟨_, _, rfl, fun m hm => ⟨b, 0, rfl, ?_⟩⟩
    have hc : ∀ j v, j < 6 → (cOp l[m])[j]? = some v → w.cell? ⟨b, 0 + m * 6 + j, none⟩ = some v := fun j v hj hv => by
      have e := flatOp_get l m hm j hj
      rw [← ht, List.getElem?_take, if_pos (by omega)] at e
      refine cell_of hg ?_
      rw [Nat.zero_add, ← hv, ← e]
      simp
    exact ⟨hc 0 _ (by omega) rfl, hc 1 _ (by omega) rfl, hc 2 _ (by omega) rfl, hc 3 _ (by omega) rfl, hc 4 _ (by omega) rfl, hc 5 _ (by omega) rfl⟩
end Go.Proofs.YtmbkjccckmlacaaDoor

namespace Go.Proofs.YtmbkjccckmlacaaDoor
open Go.RowKit
set_option linter.unusedVariables false
set_option linter.unusedSimpArgs false

theorem ints3 (w : World) (x y z : Int) : IntsAt (w.alloc (.cells #[.int .i64 x, .int .i64 y, .int .i64 z] 3)) (some ⟨w.heap.size, 0, none⟩) [x, y, z] := fun i hi => by
  have hb := alloc_here w (.cells #[.int .i64 x, .int .i64 y, .int .i64 z] 3)
  match i, hi with
  | 0, _ => exact ⟨_, _, rfl, cell_of hb rfl⟩
  | 1, _ => exact ⟨_, _, rfl, cell_of hb rfl⟩
  | 2, _ => exact ⟨_, _, rfl, cell_of hb rfl⟩
theorem ints2 (w : World) (x y : Int) : IntsAt (w.alloc (.cells #[.int .i64 x, .int .i64 y] 3)) (some ⟨w.heap.size, 0, none⟩) [x, y] := fun i hi => by
  have hb := alloc_here w (.cells #[.int .i64 x, .int .i64 y] 3)
  match i, hi with
  | 0, _ => exact ⟨_, _, rfl, cell_of hb rfl⟩
  | 1, _ => exact ⟨_, _, rfl, cell_of hb rfl⟩
def rds0S : List Nat := (srhR 1 0 (rdsL 0)).1
theorem srh_rds0' : srhR 1 0 (rdsL 0) = (rds0S, false, 0) := by kernel_rfl
theorem Search_rds1 (a : Option Addr) (w : World) (h : HsAt w a (rdsL 1)) (ht : TabW w) : Calls Tryd.prog 12 #[.agg #[.int .i64 1, .int .i64 0], .slice a 3 3] w (ShP w ([0, 1, 2], true, 0)) := by
  have := Search_any 1 0 (rdsL 1) a 3 w h (by unfold maxLen rdsL; simp) ht
  rw [srh_rds1] at this; exact this
theorem Search_rds0 (a : Option Addr) (w : World) (h : HsAt w a (rdsL 0)) (ht : TabW w) : Calls Tryd.prog 12 #[.agg #[.int .i64 1, .int .i64 0], .slice a 3 3] w (ShP w (rds0S, false, 0)) := by
  have := Search_any 1 0 (rdsL 0) a 3 w h (by unfold maxLen rdsL; simp) ht
  rw [srh_rds0'] at this; exact this
theorem Explain_rds0 (a : Option Addr) (w : World) (h : HsAt w a (rdsL 0)) (ht : TabW w) : Calls Tryd.prog 18 #[.agg #[.int .i64 1, .int .i64 0], .slice a 3 3] w (XpP w ([0, 1], 2, 0)) := by
  have := Explain_any 1 0 (rdsL 0) a 3 w h (by unfold maxLen rdsL; simp) ht
  rw [xpl_rds0] at this; exact this
set_option maxRecDepth 100000 in
set_option maxHeartbeats 4000000 in
theorem awake_any (w : World) (hT : TabW w) : Gives Tryd.prog 11 #[] w (.bool true) := by
  unfold Gives
  have HT := Lib.hid (fun W (hW : Ext w W) => hT.below hW.below)
  obtain ⟨w1, hw1⟩ : ∃ W, W = w.alloc (.cells #[.int .i64 1, .int .i64 0] 23) := ⟨_, rfl⟩
  have HW1 := Lib.hid hw1.symm
  have HE1 := Lib.hid (show Ext w w1 by rw [hw1]; exact ext_allocN _ _)
  have HMD := Lib.hid (fun (W : World) (hW : Ext w1 W) => show W.cell? ⟨w.heap.size, 0, none⟩ = some (.int .i64 1) ∧ W.cell? ⟨w.heap.size, 1, none⟩ = some (.int .i64 0) from by
    have hb := (hW.below.block _ (lt_of_block (show w1.heap[w.heap.size]? = some (.cells #[.int .i64 1, .int .i64 0] 23 (0, 0)) by rw [hw1]; exact alloc_here _ _))).trans (show w1.heap[w.heap.size]? = some (.cells #[.int .i64 1, .int .i64 0] 23 (0, 0)) by rw [hw1]; exact alloc_here _ _)
    exact ⟨cell_of hb rfl, cell_of hb rfl⟩)
  clear hT hw1
  go_enter Tryd.func11, Tryd.ntmps11
  go_wp2_with fail
  rw [HW1.out]
  have HEW2 := Lib.hid HE1.out
  have HEV2 := Lib.hid (show Ext w1 w1 from Below.refl _ _)
  refine wp_region_tail (l1 := [_, _, _, _, _, _, _, _, _]) (l2 := [_]) (by kernel_rfl) Ext (fun W => Below.refl _ W) (fun W => show Below W.heap.size W { W with drawn := W.drawn + 1 } from ⟨rfl, rfl, rfl, Nat.le_refl _, fun _ _ => rfl⟩) Ext.trans
    (fun i s W => match i with
      | 0 => s 0 = .agg #[.int .i64 1, .int .i64 0]
      | 1 => ∃ a, s 1 = .slice a 3 3 ∧ HsAt W a (rdsL 1)
      | 2 => ∃ v, s 2 = .tuple #[v, .bool true, .int .i64 0] ∧ RowI w.heap.size v [0, 1, 2] W
      | 3 => ∃ v, s 3 = .tuple #[v, .bool true, .int .i64 0] ∧ RowI w.heap.size v [0, 1, 2] W
      | 4 => RowI w.heap.size (s 4) [0, 1, 2] W
      | 5 => s 5 = .bool true
      | 6 => s 6 = .int .i64 0
      | 7 => RowI w.heap.size (s 7) [0, 1, 2] W
      | 8 => s 8 = .bool true
      | _ => True)
    (fun i => [i])
    (by
      intro i s s' W W' h hs hE
      have hs := hs i (by simp)
      match i, h, hs with
      | 0, h, hs => exact hs.trans h
      | 1, ⟨a, h, h1⟩, hs => exact ⟨a, hs.trans h, h1.ext hE⟩
      | 2, ⟨v, h, h1⟩, hs => exact ⟨v, hs.trans h, h1.ext hE⟩
      | 3, ⟨v, h, h1⟩, hs => exact ⟨v, hs.trans h, h1.ext hE⟩
      | 4, h, hs => exact (by rw [hs]; exact RowI.ext h hE)
      | 5, h, hs => exact hs.trans h
      | 6, h, hs => exact hs.trans h
      | 7, h, hs => exact (by rw [hs]; exact RowI.ext h hE)
      | 8, h, hs => exact hs.trans h
      | i + 9, h, hs => exact trivial)
    (by kernel_rfl) (by kernel_rfl) (by kernel_rfl) 64 rfl (by kernel_rfl) (by kernel_rfl) ?_ ?_
  · intro i op ho a' W hA
    obtain ⟨m0, m1⟩ := HMD.out W (Ext.trans HEV2.out hA.rel)
    match i, ho with
    | 0, ho =>
      obtain rfl := Option.some.inj ho
      have e1 : a'.eval (.tmp 1) = .pointer (some ⟨w.heap.size, 0, none⟩) := hA.keep 1 (by kernel_rfl)
      refine GoesG.value (.agg #[.int .i64 1, .int .i64 0]) rfl ?_ (Below.refl _ _) (fun s h1 h2 => h1 rfl)
      simp only [execOp, e1]
      simp [go_sem, m0, m1]
    | 1, ho =>
      obtain rfl := Option.some.inj ho
      refine GoesG.call 31 #[.int .i64 1] rfl ?_ ?_
      · have en := enters_fn Tryd.func31 (by kernel_rfl) rfl
        simp [execOp, go_sem, en]
      · refine (reads_any 1 W).mono ?_
        rintro e W2 ⟨a1, rfl, h1, h2⟩
        exact ⟨_, rfl, h2, fun s g1 g2 => ⟨a1, g1 rfl, h1⟩⟩
    | 2, ho =>
      obtain rfl := Option.some.inj ho
      have e1 : a'.eval (.tmp 13) = .agg #[.int .i64 1, .int .i64 0] := (sv_dst (l := _) rfl).symm.trans (hA.new 0 (by decide) (by kernel_rfl))
      obtain ⟨a1, e0, h1⟩ := hA.new 1 (by decide) (by kernel_rfl)
      have e2 : a'.eval (.tmp 14) = .slice a1 3 3 := (sv_dst (l := _) rfl).symm.trans e0
      refine GoesG.call 12 #[.agg #[.int .i64 1, .int .i64 0], .slice a1 3 3] rfl ?_ ?_
      · have en := enters_fn Tryd.func12 (by kernel_rfl) rfl
        simp [Act.eval] at e1 e2
        simp [execOp, go_sem, e1, e2, en]
      · refine (Search_rds1 a1 W h1 (HT.out W (Ext.trans HEW2.out hA.rel))).mono ?_
        rintro e W2 ⟨v, rfl, h1, h2⟩
        exact ⟨_, rfl, h2, fun s g1 g2 => ⟨v, g1 rfl, h1.le (Nat.le_trans HEW2.out.size hA.rel.size)⟩⟩
    | 3, ho =>
      obtain rfl := Option.some.inj ho
      obtain ⟨v, e0, h1⟩ := hA.new 2 (by decide) (by kernel_rfl)
      have e1 : a'.eval (.tmp 15) = .tuple #[v, .bool true, .int .i64 0] := (sv_dst (l := _) rfl).symm.trans e0
      refine GoesG.value (.tuple #[v, .bool true, .int .i64 0]) rfl ?_ (Below.refl _ _) (fun s g1 g2 => ⟨v, g1 rfl, h1⟩)
      simp only [execOp, e1]
      simp [go_sem]
    | 4, ho =>
      obtain rfl := Option.some.inj ho
      obtain ⟨v, e0, h1⟩ := hA.new 3 (by decide) (by kernel_rfl)
      have e1 : a'.eval (.tmp 12) = .tuple #[v, .bool true, .int .i64 0] := (sv_dst (l := _) rfl).symm.trans e0
      refine GoesG.value (v) rfl ?_ (Below.refl _ _) (fun s g1 g2 => (by rw [g1 rfl]; exact h1))
      simp only [execOp, e1]
      simp [go_sem]
    | 5, ho =>
      obtain rfl := Option.some.inj ho
      obtain ⟨v, e0, h1⟩ := hA.new 3 (by decide) (by kernel_rfl)
      have e1 : a'.eval (.tmp 12) = .tuple #[v, .bool true, .int .i64 0] := (sv_dst (l := _) rfl).symm.trans e0
      refine GoesG.value (.bool true) rfl ?_ (Below.refl _ _) (fun s g1 g2 => g1 rfl)
      simp only [execOp, e1]
      simp [go_sem]
    | 6, ho =>
      obtain rfl := Option.some.inj ho
      obtain ⟨v, e0, h1⟩ := hA.new 3 (by decide) (by kernel_rfl)
      have e1 : a'.eval (.tmp 12) = .tuple #[v, .bool true, .int .i64 0] := (sv_dst (l := _) rfl).symm.trans e0
      refine GoesG.value (.int .i64 0) rfl ?_ (Below.refl _ _) (fun s g1 g2 => g1 rfl)
      simp only [execOp, e1]
      simp [go_sem]
    | 7, ho =>
      obtain rfl := Option.some.inj ho
      have h1 : RowI w.heap.size (sv _ a' 4) [0, 1, 2] W := hA.new 4 (by decide) (by kernel_rfl)
      rw [sv_dst (l := _) (d := 16) rfl] at h1
      refine GoesG.value (a'.eval (.tmp 16)) rfl ?_ (Below.refl _ _) (fun s g1 g2 => ?_)
      · simp [execOp, go_sem]
      · rw [g1 rfl]; exact h1
    | 8, ho =>
      obtain rfl := Option.some.inj ho
      have e1 : a'.eval (.tmp 17) = .bool true := (sv_dst (l := _) rfl).symm.trans (hA.new 5 (by decide) (by kernel_rfl))
      refine GoesG.value (.bool true) rfl ?_ (Below.refl _ _) (fun s h1 h2 => h1 rfl)
      simp only [execOp, e1]
      simp [go_sem, m0, m1]
    | i + 9, ho => cases ho
  · intro vs w4 hvs hG hΦ
    obtain ⟨y0, y1, y2, y3, y4, y5, y6, y7, y8, rfl⟩ : ∃ y0 y1 y2 y3 y4 y5 y6 y7 y8, vs = y0 :: y1 :: y2 :: y3 :: y4 :: y5 :: y6 :: y7 :: y8 :: [] := by
      match vs, hvs with
      | y0 :: y1 :: y2 :: y3 :: y4 :: y5 :: y6 :: y7 :: y8 :: [], _ => exact ⟨y0, y1, y2, y3, y4, y5, y6, y7, y8, rfl⟩
    have e0 : y0 = .agg #[.int .i64 1, .int .i64 0] := hΦ 0 (by decide)
    subst e0
    have p1 : ∃ a, y1 = .slice a 3 3 ∧ HsAt w4 a (rdsL 1) := hΦ 1 (by decide)
    have p2 : ∃ v, y2 = .tuple #[v, .bool true, .int .i64 0] ∧ RowI w.heap.size v [0, 1, 2] w4 := hΦ 2 (by decide)
    have p3 : ∃ v, y3 = .tuple #[v, .bool true, .int .i64 0] ∧ RowI w.heap.size v [0, 1, 2] w4 := hΦ 3 (by decide)
    have p4 : RowI w.heap.size (y4) [0, 1, 2] w4 := hΦ 4 (by decide)
    have e5 : y5 = .bool true := hΦ 5 (by decide)
    subst e5
    have e6 : y6 = .int .i64 0 := hΦ 6 (by decide)
    subst e6
    have p7 : RowI w.heap.size (y7) [0, 1, 2] w4 := hΦ 7 (by decide)
    have e8 : y8 = .bool true := hΦ 8 (by decide)
    subst e8
    clear hΦ hvs
    simp only [putAll, Act.put, List.setIfInBounds_toArray, List.set_cons_succ, List.set_cons_zero]
    obtain ⟨x2, cc2, e2, hi2, -, -⟩ := RowI.look p7
    subst e2
    obtain ⟨W3, hW3⟩ : ∃ W3, W3 = w4 := ⟨_, rfl⟩
    subst hW3
    have HEV3 := Lib.hid (show Ext w1 W3 from Ext.trans HEV2.out hG)
    have HEW3 := Lib.hid (show Ext w W3 from Ext.trans HE1.out HEV3.out)
    have HI2 := Lib.hid (show IntsAt W3 x2 [0, 1, 2] from hi2)
    clear p1 p2 p3 p4 p7 hG hi2
    go_wp2_with fail
    refine wp_region_tail (l1 := [_, _, _, _, _, _, _, _, _]) (l2 := [_]) (by kernel_rfl) Ext (fun W => Below.refl _ W) (fun W => show Below W.heap.size W { W with drawn := W.drawn + 1 } from ⟨rfl, rfl, rfl, Nat.le_refl _, fun _ _ => rfl⟩) Ext.trans
      (fun i s W => match i with
        | 0 => s 0 = .agg #[.int .i64 1, .int .i64 0]
        | 1 => ∃ a, s 1 = .slice a 3 3 ∧ HsAt W a (rdsL 0)
        | 2 => ∃ v, s 2 = .tuple #[v, .bool false, .int .i64 0] ∧ RowI w.heap.size v (rds0S.map Int.ofNat) W
        | 3 => ∃ v, s 3 = .tuple #[v, .bool false, .int .i64 0] ∧ RowI w.heap.size v (rds0S.map Int.ofNat) W
        | 4 => RowI w.heap.size (s 4) (rds0S.map Int.ofNat) W
        | 5 => s 5 = .bool false
        | 6 => s 6 = .int .i64 0
        | 7 => RowI w.heap.size (s 7) (rds0S.map Int.ofNat) W
        | 8 => s 8 = .bool false
        | _ => True)
      (fun i => [i])
      (by
        intro i s s' W W' h hs hE
        have hs := hs i (by simp)
        match i, h, hs with
        | 0, h, hs => exact hs.trans h
        | 1, ⟨a, h, h1⟩, hs => exact ⟨a, hs.trans h, h1.ext hE⟩
        | 2, ⟨v, h, h1⟩, hs => exact ⟨v, hs.trans h, h1.ext hE⟩
        | 3, ⟨v, h, h1⟩, hs => exact ⟨v, hs.trans h, h1.ext hE⟩
        | 4, h, hs => exact (by rw [hs]; exact RowI.ext h hE)
        | 5, h, hs => exact hs.trans h
        | 6, h, hs => exact hs.trans h
        | 7, h, hs => exact (by rw [hs]; exact RowI.ext h hE)
        | 8, h, hs => exact hs.trans h
        | i + 9, h, hs => exact trivial)
      (by kernel_rfl) (by kernel_rfl) (by kernel_rfl) 64 rfl (by kernel_rfl) (by kernel_rfl) ?_ ?_
    · intro i op ho a' W hA
      obtain ⟨m0, m1⟩ := HMD.out W (Ext.trans HEV3.out hA.rel)
      match i, ho with
      | 0, ho =>
        obtain rfl := Option.some.inj ho
        have e1 : a'.eval (.tmp 1) = .pointer (some ⟨w.heap.size, 0, none⟩) := hA.keep 1 (by kernel_rfl)
        refine GoesG.value (.agg #[.int .i64 1, .int .i64 0]) rfl ?_ (Below.refl _ _) (fun s h1 h2 => h1 rfl)
        simp only [execOp, e1]
        simp [go_sem, m0, m1]
      | 1, ho =>
        obtain rfl := Option.some.inj ho
        refine GoesG.call 31 #[.int .i64 0] rfl ?_ ?_
        · have en := enters_fn Tryd.func31 (by kernel_rfl) rfl
          simp [execOp, go_sem, en]
        · refine (reads_any 0 W).mono ?_
          rintro e W2 ⟨a1, rfl, h1, h2⟩
          exact ⟨_, rfl, h2, fun s g1 g2 => ⟨a1, g1 rfl, h1⟩⟩
      | 2, ho =>
        obtain rfl := Option.some.inj ho
        have e1 : a'.eval (.tmp 20) = .agg #[.int .i64 1, .int .i64 0] := (sv_dst (l := _) rfl).symm.trans (hA.new 0 (by decide) (by kernel_rfl))
        obtain ⟨a1, e0, h1⟩ := hA.new 1 (by decide) (by kernel_rfl)
        have e2 : a'.eval (.tmp 21) = .slice a1 3 3 := (sv_dst (l := _) rfl).symm.trans e0
        refine GoesG.call 12 #[.agg #[.int .i64 1, .int .i64 0], .slice a1 3 3] rfl ?_ ?_
        · have en := enters_fn Tryd.func12 (by kernel_rfl) rfl
          simp [Act.eval] at e1 e2
          simp [execOp, go_sem, e1, e2, en]
        · refine (Search_rds0 a1 W h1 (HT.out W (Ext.trans HEW3.out hA.rel))).mono ?_
          rintro e W2 ⟨v, rfl, h1, h2⟩
          exact ⟨_, rfl, h2, fun s g1 g2 => ⟨v, g1 rfl, h1.le (Nat.le_trans HEW3.out.size hA.rel.size)⟩⟩
      | 3, ho =>
        obtain rfl := Option.some.inj ho
        obtain ⟨v, e0, h1⟩ := hA.new 2 (by decide) (by kernel_rfl)
        have e1 : a'.eval (.tmp 22) = .tuple #[v, .bool false, .int .i64 0] := (sv_dst (l := _) rfl).symm.trans e0
        refine GoesG.value (.tuple #[v, .bool false, .int .i64 0]) rfl ?_ (Below.refl _ _) (fun s g1 g2 => ⟨v, g1 rfl, h1⟩)
        simp only [execOp, e1]
        simp [go_sem]
      | 4, ho =>
        obtain rfl := Option.some.inj ho
        obtain ⟨v, e0, h1⟩ := hA.new 3 (by decide) (by kernel_rfl)
        have e1 : a'.eval (.tmp 19) = .tuple #[v, .bool false, .int .i64 0] := (sv_dst (l := _) rfl).symm.trans e0
        refine GoesG.value (v) rfl ?_ (Below.refl _ _) (fun s g1 g2 => (by rw [g1 rfl]; exact h1))
        simp only [execOp, e1]
        simp [go_sem]
      | 5, ho =>
        obtain rfl := Option.some.inj ho
        obtain ⟨v, e0, h1⟩ := hA.new 3 (by decide) (by kernel_rfl)
        have e1 : a'.eval (.tmp 19) = .tuple #[v, .bool false, .int .i64 0] := (sv_dst (l := _) rfl).symm.trans e0
        refine GoesG.value (.bool false) rfl ?_ (Below.refl _ _) (fun s g1 g2 => g1 rfl)
        simp only [execOp, e1]
        simp [go_sem]
      | 6, ho =>
        obtain rfl := Option.some.inj ho
        obtain ⟨v, e0, h1⟩ := hA.new 3 (by decide) (by kernel_rfl)
        have e1 : a'.eval (.tmp 19) = .tuple #[v, .bool false, .int .i64 0] := (sv_dst (l := _) rfl).symm.trans e0
        refine GoesG.value (.int .i64 0) rfl ?_ (Below.refl _ _) (fun s g1 g2 => g1 rfl)
        simp only [execOp, e1]
        simp [go_sem]
      | 7, ho =>
        obtain rfl := Option.some.inj ho
        have h1 : RowI w.heap.size (sv _ a' 4) (rds0S.map Int.ofNat) W := hA.new 4 (by decide) (by kernel_rfl)
        rw [sv_dst (l := _) (d := 23) rfl] at h1
        refine GoesG.value (a'.eval (.tmp 23)) rfl ?_ (Below.refl _ _) (fun s g1 g2 => ?_)
        · simp [execOp, go_sem]
        · rw [g1 rfl]; exact h1
      | 8, ho =>
        obtain rfl := Option.some.inj ho
        have e1 : a'.eval (.tmp 24) = .bool false := (sv_dst (l := _) rfl).symm.trans (hA.new 5 (by decide) (by kernel_rfl))
        refine GoesG.value (.bool false) rfl ?_ (Below.refl _ _) (fun s h1 h2 => h1 rfl)
        simp only [execOp, e1]
        simp [go_sem, m0, m1]
      | i + 9, ho => cases ho
    · intro vs w4 hvs hG hΦ
      obtain ⟨y0, y1, y2, y3, y4, y5, y6, y7, y8, rfl⟩ : ∃ y0 y1 y2 y3 y4 y5 y6 y7 y8, vs = y0 :: y1 :: y2 :: y3 :: y4 :: y5 :: y6 :: y7 :: y8 :: [] := by
        match vs, hvs with
        | y0 :: y1 :: y2 :: y3 :: y4 :: y5 :: y6 :: y7 :: y8 :: [], _ => exact ⟨y0, y1, y2, y3, y4, y5, y6, y7, y8, rfl⟩
      have e0 : y0 = .agg #[.int .i64 1, .int .i64 0] := hΦ 0 (by decide)
      subst e0
      have p1 : ∃ a, y1 = .slice a 3 3 ∧ HsAt w4 a (rdsL 0) := hΦ 1 (by decide)
      have p2 : ∃ v, y2 = .tuple #[v, .bool false, .int .i64 0] ∧ RowI w.heap.size v (rds0S.map Int.ofNat) w4 := hΦ 2 (by decide)
      have p3 : ∃ v, y3 = .tuple #[v, .bool false, .int .i64 0] ∧ RowI w.heap.size v (rds0S.map Int.ofNat) w4 := hΦ 3 (by decide)
      have p4 : RowI w.heap.size (y4) (rds0S.map Int.ofNat) w4 := hΦ 4 (by decide)
      have e5 : y5 = .bool false := hΦ 5 (by decide)
      subst e5
      have e6 : y6 = .int .i64 0 := hΦ 6 (by decide)
      subst e6
      have p7 : RowI w.heap.size (y7) (rds0S.map Int.ofNat) w4 := hΦ 7 (by decide)
      have e8 : y8 = .bool false := hΦ 8 (by decide)
      subst e8
      clear hΦ hvs
      simp only [putAll, Act.put, List.setIfInBounds_toArray, List.set_cons_succ, List.set_cons_zero]
      obtain ⟨x3, cc3, e3, hi3, -, -⟩ := RowI.look p7
      obtain ⟨W4, hW4⟩ : ∃ W4, W4 = w4 := ⟨_, rfl⟩
      subst hW4
      have HEV4 := Lib.hid (show Ext w1 W4 from Ext.trans HEV3.out hG)
      have HEW4 := Lib.hid (show Ext w W4 from Ext.trans HE1.out HEV4.out)
      have HI24 := Lib.hid (HI2.out.ext hG)
      clear p1 p2 p3 p4 p7 hG hi3
      go_wp2_with fail
      refine wp_region_tail (l1 := [_, _, _, _, _, _, _, _, _]) (l2 := [_]) (by kernel_rfl) Ext (fun W => Below.refl _ W) (fun W => show Below W.heap.size W { W with drawn := W.drawn + 1 } from ⟨rfl, rfl, rfl, Nat.le_refl _, fun _ _ => rfl⟩) Ext.trans
        (fun i s W => match i with
          | 0 => s 0 = .agg #[.int .i64 1, .int .i64 0]
          | 1 => ∃ a, s 1 = .slice a 3 3 ∧ HsAt W a (rdsL 0)
          | 2 => ∃ v, s 2 = .tuple #[v, .int .i64 2, .int .i64 0] ∧ RowI w.heap.size v [0, 1] W
          | 3 => ∃ v, s 3 = .tuple #[v, .int .i64 2, .int .i64 0] ∧ RowI w.heap.size v [0, 1] W
          | 4 => RowI w.heap.size (s 4) [0, 1] W
          | 5 => s 5 = .int .i64 2
          | 6 => s 6 = .int .i64 0
          | 7 => RowI w.heap.size (s 7) [0, 1] W
          | 8 => s 8 = .int .i64 2
          | _ => True)
        (fun i => [i])
        (by
          intro i s s' W W' h hs hE
          have hs := hs i (by simp)
          match i, h, hs with
          | 0, h, hs => exact hs.trans h
          | 1, ⟨a, h, h1⟩, hs => exact ⟨a, hs.trans h, h1.ext hE⟩
          | 2, ⟨v, h, h1⟩, hs => exact ⟨v, hs.trans h, h1.ext hE⟩
          | 3, ⟨v, h, h1⟩, hs => exact ⟨v, hs.trans h, h1.ext hE⟩
          | 4, h, hs => exact (by rw [hs]; exact RowI.ext h hE)
          | 5, h, hs => exact hs.trans h
          | 6, h, hs => exact hs.trans h
          | 7, h, hs => exact (by rw [hs]; exact RowI.ext h hE)
          | 8, h, hs => exact hs.trans h
          | i + 9, h, hs => exact trivial)
        (by kernel_rfl) (by kernel_rfl) (by kernel_rfl) 64 rfl (by kernel_rfl) (by kernel_rfl) ?_ ?_
      · intro i op ho a' W hA
        obtain ⟨m0, m1⟩ := HMD.out W (Ext.trans HEV4.out hA.rel)
        match i, ho with
        | 0, ho =>
          obtain rfl := Option.some.inj ho
          have e1 : a'.eval (.tmp 1) = .pointer (some ⟨w.heap.size, 0, none⟩) := hA.keep 1 (by kernel_rfl)
          refine GoesG.value (.agg #[.int .i64 1, .int .i64 0]) rfl ?_ (Below.refl _ _) (fun s h1 h2 => h1 rfl)
          simp only [execOp, e1]
          simp [go_sem, m0, m1]
        | 1, ho =>
          obtain rfl := Option.some.inj ho
          refine GoesG.call 31 #[.int .i64 0] rfl ?_ ?_
          · have en := enters_fn Tryd.func31 (by kernel_rfl) rfl
            simp [execOp, go_sem, en]
          · refine (reads_any 0 W).mono ?_
            rintro e W2 ⟨a1, rfl, h1, h2⟩
            exact ⟨_, rfl, h2, fun s g1 g2 => ⟨a1, g1 rfl, h1⟩⟩
        | 2, ho =>
          obtain rfl := Option.some.inj ho
          have e1 : a'.eval (.tmp 27) = .agg #[.int .i64 1, .int .i64 0] := (sv_dst (l := _) rfl).symm.trans (hA.new 0 (by decide) (by kernel_rfl))
          obtain ⟨a1, e0, h1⟩ := hA.new 1 (by decide) (by kernel_rfl)
          have e2 : a'.eval (.tmp 28) = .slice a1 3 3 := (sv_dst (l := _) rfl).symm.trans e0
          refine GoesG.call 18 #[.agg #[.int .i64 1, .int .i64 0], .slice a1 3 3] rfl ?_ ?_
          · have en := enters_fn Tryd.func18 (by kernel_rfl) rfl
            simp [Act.eval] at e1 e2
            simp [execOp, go_sem, e1, e2, en]
          · refine (Explain_rds0 a1 W h1 (HT.out W (Ext.trans HEW4.out hA.rel))).mono ?_
            rintro e W2 ⟨v, rfl, h1, h2⟩
            exact ⟨_, rfl, h2, fun s g1 g2 => ⟨v, g1 rfl, h1.le (Nat.le_trans HEW4.out.size hA.rel.size)⟩⟩
        | 3, ho =>
          obtain rfl := Option.some.inj ho
          obtain ⟨v, e0, h1⟩ := hA.new 2 (by decide) (by kernel_rfl)
          have e1 : a'.eval (.tmp 29) = .tuple #[v, .int .i64 2, .int .i64 0] := (sv_dst (l := _) rfl).symm.trans e0
          refine GoesG.value (.tuple #[v, .int .i64 2, .int .i64 0]) rfl ?_ (Below.refl _ _) (fun s g1 g2 => ⟨v, g1 rfl, h1⟩)
          simp only [execOp, e1]
          simp [go_sem]
        | 4, ho =>
          obtain rfl := Option.some.inj ho
          obtain ⟨v, e0, h1⟩ := hA.new 3 (by decide) (by kernel_rfl)
          have e1 : a'.eval (.tmp 26) = .tuple #[v, .int .i64 2, .int .i64 0] := (sv_dst (l := _) rfl).symm.trans e0
          refine GoesG.value (v) rfl ?_ (Below.refl _ _) (fun s g1 g2 => (by rw [g1 rfl]; exact h1))
          simp only [execOp, e1]
          simp [go_sem]
        | 5, ho =>
          obtain rfl := Option.some.inj ho
          obtain ⟨v, e0, h1⟩ := hA.new 3 (by decide) (by kernel_rfl)
          have e1 : a'.eval (.tmp 26) = .tuple #[v, .int .i64 2, .int .i64 0] := (sv_dst (l := _) rfl).symm.trans e0
          refine GoesG.value (.int .i64 2) rfl ?_ (Below.refl _ _) (fun s g1 g2 => g1 rfl)
          simp only [execOp, e1]
          simp [go_sem]
        | 6, ho =>
          obtain rfl := Option.some.inj ho
          obtain ⟨v, e0, h1⟩ := hA.new 3 (by decide) (by kernel_rfl)
          have e1 : a'.eval (.tmp 26) = .tuple #[v, .int .i64 2, .int .i64 0] := (sv_dst (l := _) rfl).symm.trans e0
          refine GoesG.value (.int .i64 0) rfl ?_ (Below.refl _ _) (fun s g1 g2 => g1 rfl)
          simp only [execOp, e1]
          simp [go_sem]
        | 7, ho =>
          obtain rfl := Option.some.inj ho
          have h1 : RowI w.heap.size (sv _ a' 4) [0, 1] W := hA.new 4 (by decide) (by kernel_rfl)
          rw [sv_dst (l := _) (d := 30) rfl] at h1
          refine GoesG.value (a'.eval (.tmp 30)) rfl ?_ (Below.refl _ _) (fun s g1 g2 => ?_)
          · simp [execOp, go_sem]
          · rw [g1 rfl]; exact h1
        | 8, ho =>
          obtain rfl := Option.some.inj ho
          have e1 : a'.eval (.tmp 31) = .int .i64 2 := (sv_dst (l := _) rfl).symm.trans (hA.new 5 (by decide) (by kernel_rfl))
          refine GoesG.value (.int .i64 2) rfl ?_ (Below.refl _ _) (fun s h1 h2 => h1 rfl)
          simp only [execOp, e1]
          simp [go_sem, m0, m1]
        | i + 9, ho => cases ho
      · intro vs w4 hvs hG hΦ
        obtain ⟨y0, y1, y2, y3, y4, y5, y6, y7, y8, rfl⟩ : ∃ y0 y1 y2 y3 y4 y5 y6 y7 y8, vs = y0 :: y1 :: y2 :: y3 :: y4 :: y5 :: y6 :: y7 :: y8 :: [] := by
          match vs, hvs with
          | y0 :: y1 :: y2 :: y3 :: y4 :: y5 :: y6 :: y7 :: y8 :: [], _ => exact ⟨y0, y1, y2, y3, y4, y5, y6, y7, y8, rfl⟩
        have e0 : y0 = .agg #[.int .i64 1, .int .i64 0] := hΦ 0 (by decide)
        subst e0
        have p1 : ∃ a, y1 = .slice a 3 3 ∧ HsAt w4 a (rdsL 0) := hΦ 1 (by decide)
        have p2 : ∃ v, y2 = .tuple #[v, .int .i64 2, .int .i64 0] ∧ RowI w.heap.size v [0, 1] w4 := hΦ 2 (by decide)
        have p3 : ∃ v, y3 = .tuple #[v, .int .i64 2, .int .i64 0] ∧ RowI w.heap.size v [0, 1] w4 := hΦ 3 (by decide)
        have p4 : RowI w.heap.size (y4) [0, 1] w4 := hΦ 4 (by decide)
        have e5 : y5 = .int .i64 2 := hΦ 5 (by decide)
        subst e5
        have e6 : y6 = .int .i64 0 := hΦ 6 (by decide)
        subst e6
        have p7 : RowI w.heap.size (y7) [0, 1] w4 := hΦ 7 (by decide)
        have e8 : y8 = .int .i64 2 := hΦ 8 (by decide)
        subst e8
        clear hΦ hvs
        simp only [putAll, Act.put, List.setIfInBounds_toArray, List.set_cons_succ, List.set_cons_zero]
        obtain ⟨x8, cc8, e8, hi8, -, -⟩ := RowI.look p7
        subst e8
        obtain ⟨W5, hW5⟩ : ∃ W5, W5 = w4 := ⟨_, rfl⟩
        subst hW5
        have HEW5 := Lib.hid (show Ext w W5 from Ext.trans HE1.out (Ext.trans HEV4.out hG))
        have HI25 := Lib.hid (HI24.out.ext hG)
        have HI85 := Lib.hid (show IntsAt W5 x8 [0, 1] from hi8)
        clear p1 p2 p3 p4 p7 hG hi8
        go_wp2_with fail
        have HX6 := Lib.hid (ext_allocN W5 (.cells #[.int .i64 0, .int .i64 1, .int .i64 2] 3))
        have C6 := SameI_any [0, 1, 2] [0, 1, 2] x2 (some ⟨W5.heap.size, 0, none⟩) cc2 3 _ (by simp) (by simp) (HI25.out.ext HX6.out) (ints3 W5 0 1 2)
        rw [show decide (([0, 1, 2] : List Int) = [0, 1, 2]) = true from by decide] at C6
        refine C6.mono ?_
        intro w7 hE7
        have HEW7 := Lib.hid (show Ext w w7 from Ext.trans HEW5.out (Ext.trans HX6.out hE7))
        have HI87 := Lib.hid (HI85.out.ext (Ext.trans HX6.out hE7))
        clear hE7 C6
        go_wp2_with fail
        have HX8 := Lib.hid (ext_allocN w7 (.cells #[.int .i64 0, .int .i64 1] 3))
        have C8 := SameI_any [0, 1] [0, 1] x8 (some ⟨w7.heap.size, 0, none⟩) cc8 2 _ (by simp) (by simp) (HI87.out.ext HX8.out) (ints2 w7 0 1)
        rw [show decide (([0, 1] : List Int) = [0, 1]) = true from by decide] at C8
        refine C8.mono ?_
        intro w9 hE9
        have HEW9 := Lib.hid (show Ext w w9 from Ext.trans HEW7.out (Ext.trans HX8.out hE9))
        clear hE9 C8
        go_wp2
        go_ret
        exact ⟨rfl, HEW9.out⟩
end Go.Proofs.YtmbkjccckmlacaaDoor

