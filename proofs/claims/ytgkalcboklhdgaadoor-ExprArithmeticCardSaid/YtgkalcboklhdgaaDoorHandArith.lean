/- The statement ExprArithmeticCardSaid: for every input the law returns true, and the arguments read as before; the tables of the library that it lists are tied to the text. The frame round the walk of the law. (With it: Plain: other values of the names do not change the type; errors of evaluation. Bindings of the call's own, stored to.; Plain: the values of the expressions of the law on arithmetic; the closure that evaluates.; ExprArithmetic: the walk.) -/
import Derived.Deep.Cut
import Derived.Deep.CutRange
import Derived.Test.YtgkalcboklhdgaaDoorCards
import Derived.Test.YtgkalcboklhdgaaDoorTie
import Derived.WalkKit
import Derived.ProofKit
import Derived.OpenShut
import Derived.ShutString
import Derived.ChangeOld
import Derived.Below
import Derived.Deep.DeepHandedRow
import Derived.Lib.LaidTab
import Derived.Shelf.Vars
import Derived.Test.YtgkalcboklhdgaaDoorPart5
import Derived.Test.YtgkalcboklhdgaaDoorPart8

namespace Go.Proofs.YtgkalcboklhdgaaDoor
open Go.RowKit
set_option linter.unusedVariables false
set_option linter.unusedSimpArgs false
open Ex

/-- a binding with another value -/
def chB (b : Bn) : Bn := { b with value := if b.type = 1 then 7 else 1 - b.value }
theorem isN_ch (n : List UInt8) : isN n ∘ chB = isN n := rfl
theorem fdIs_ch (bs : List Bn) (n : List UInt8) : fdIs (bs.map chB) n = fdIs bs n := by
  unfold fdIs
  rw [List.find?_map, isN_ch]; simp
theorem fdB_ch (bs : List Bn) (n : List UInt8) : (fdB (bs.map chB) n).type = (fdB bs n).type := by
  unfold fdB
  rw [List.find?_map, isN_ch]
  cases bs.find? (isN n) <;> rfl
theorem tyN_ch (bs : List Bn) (k o : Int) (n : List UInt8) (l : List Int) : tyN (bs.map chB) k o n l = tyN bs k o n l := by
  unfold tyN
  rw [fdIs_ch, fdB_ch]
mutual
theorem ty_ch (bs : List Bn) : ∀ e : Ex, e.ty (bs.map chB) = e.ty bs
  | .mk k o n v ts => by simp only [Ex.ty]; rw [tys_ch bs ts, tyN_ch]
theorem tys_ch (bs : List Bn) : ∀ ts : List Ex, Ex.tys (bs.map chB) ts = Ex.tys bs ts
  | [] => rfl
  | t :: ts => by simp only [Ex.tys]; rw [ty_ch bs t, tys_ch bs ts]
end
theorem ok_ch {prev : Option (List UInt8)} {b : Bn} (h : b.ok prev = true) : (chB b).ok prev = true := by
  unfold Bn.ok chB at *
  simp only [Bool.and_eq_true] at h ⊢
  refine ⟨h.1, ?_⟩
  have h2 := h.2
  by_cases ht : b.type = 2
  · rw [if_pos ht] at h2 ⊢
    have := of_decide_eq_true h2
    rw [if_neg (by omega)]
    apply decide_eq_true; omega
  · have h1 := of_decide_eq_true h.1.2
    rw [if_neg ht, if_pos (by omega)]
    apply decide_eq_true
    unfold inM
    exact ⟨by omega, by omega⟩
theorem bnsOk_ch : ∀ (bs : List Bn) (prev : Option (List UInt8)), bnsOk prev bs = true → bnsOk prev (bs.map chB) = true
  | [], _, _ => rfl
  | b :: bs, prev, h => by
    simp only [bnsOk, List.map_cons, Bool.and_eq_true] at h ⊢
    exact ⟨ok_ch h.1, bnsOk_ch bs _ h.2⟩
theorem bnds_ch {bs : List Bn} (h : bnds bs = true) : bnds (bs.map chB) = true := by
  unfold bnds at *
  simp only [Bool.and_eq_true, List.length_map] at h ⊢
  exact ⟨bnsOk_ch bs _ h.1, h.2⟩
theorem tyR_ch {bs : List Bn} (h : bnds bs = true) (e : Ex) : tyR (bs.map chB) e = tyR bs e := by
  unfold tyR
  rw [bnds_ch h, h, ty_ch]
theorem opE_err2 (k x y : Int) (h : (opE k x y).2 ≠ 0) : (opE k x y).1 = 0 ∧ ((opE k x y).2 = 24 ∨ (opE k x y).2 = 14) := by
  unfold opE at h ⊢
  by_cases h1 : (opR k x y).2 = 0
  · rw [if_neg (by simp [h1])] at h ⊢
    by_cases h2 : inM (opR k x y).1
    · rw [if_pos h2] at h; exact absurd rfl h
    · rw [if_neg h2]; exact ⟨rfl, .inr rfl⟩
  · rw [if_pos h1]
    refine ⟨rfl, ?_⟩
    show (opR k x y).2 = 24 ∨ (opR k x y).2 = 14
    unfold opR at h1 ⊢
    by_cases a3 : k = 3
    · rw [if_pos a3] at h1; exact absurd rfl h1
    · rw [if_neg a3] at h1 ⊢
      by_cases a4 : k = 4
      · rw [if_pos a4] at h1; exact absurd rfl h1
      · rw [if_neg a4] at h1 ⊢
        by_cases a5 : k = 5
        · rw [if_pos a5] at h1 ⊢
          cases hm : mulBig x y <;> simp [hm] at h1 ⊢
        · rw [if_neg a5] at h1 ⊢
          by_cases a6 : k = 6
          · rw [if_pos a6] at h1 ⊢
            by_cases hy : y = 0 <;> simp [hy] at h1 ⊢
          · rw [if_neg a6] at h1 ⊢
            by_cases a7 : k = 7
            · rw [if_pos a7] at h1 ⊢
              by_cases hy : y = 0 <;> simp [hy] at h1 ⊢
            · rw [if_neg a7] at h1
              exact absurd rfl h1
theorem evN_err2 (bs : List Bn) (k o : Int) (n : List UInt8) (v : Int) (l : List Int) (h : (evN bs k o n v l).2 ≠ 0) : (evN bs k o n v l).1 = 0 ∧ ((evN bs k o n v l).2 = 24 ∨ (evN bs k o n v l).2 = 14) := by
  unfold evN at h ⊢
  by_cases h1 : k = 1
  · rw [if_pos h1] at h; exact absurd rfl h
  · rw [if_neg h1] at h ⊢
    by_cases h2 : k = 2
    · rw [if_pos h2] at h; exact absurd rfl h
    · rw [if_neg h2] at h ⊢
      by_cases h3 : k = 3
      · rw [if_pos h3] at h; exact absurd rfl h
      · rw [if_neg h3] at h ⊢
        exact opE_err2 _ _ _ h
mutual
theorem ev_err2 (bs : List Bn) : ∀ e : Ex, (e.ev bs).2 ≠ 0 → (e.ev bs).1 = 0 ∧ ((e.ev bs).2 = 24 ∨ (e.ev bs).2 = 14)
  | .mk k o n v ts, h => by
    simp only [Ex.ev] at h ⊢
    by_cases h1 : (Ex.evs bs ts).1 = 0
    · rw [if_neg (by simp [h1])] at h ⊢; exact evN_err2 _ _ _ _ _ _ h
    · rw [if_pos h1]; exact ⟨rfl, evs_err2 bs ts h1⟩
theorem evs_err2 (bs : List Bn) : ∀ ts : List Ex, (Ex.evs bs ts).1 ≠ 0 → (Ex.evs bs ts).1 = 24 ∨ (Ex.evs bs ts).1 = 14
  | [], h => absurd rfl h
  | t :: ts, h => by
    simp only [Ex.evs] at h ⊢
    by_cases h1 : (t.ev bs).2 = 0
    · rw [if_neg (by simp [h1])] at h ⊢; exact evs_err2 bs ts h
    · rw [if_pos h1]; exact (ev_err2 bs t h1).2
end
mutual
theorem ty_err2 (bs : List Bn) : ∀ e : Ex, (e.ty bs).2 ≠ 0 → (e.ty bs).1 = 0
  | .mk k o n v ts, h => by
    simp only [Ex.ty] at h ⊢
    by_cases h1 : (Ex.tys bs ts).1 = 0
    · rw [if_neg (by simp [h1])] at h ⊢
      unfold tyN at h ⊢
      by_cases k1 : k = 1
      · rw [if_pos k1] at h; exact absurd rfl h
      · rw [if_neg k1] at h ⊢
        by_cases k2 : k = 2
        · rw [if_pos k2] at h ⊢
          cases hf : fdIs bs n <;> simp [hf] at h ⊢
        · rw [if_neg k2] at h ⊢
          by_cases k3 : k = 3
          · rw [if_pos k3] at h ⊢
            by_cases hh : (Ex.tys bs ts).2.getD 0 0 = (if o = 2 then 2 else 1)
            · rw [if_pos hh] at h; exact absurd rfl h
            · rw [if_neg hh]
          · rw [if_neg k3] at h ⊢
            by_cases hh : (Ex.tys bs ts).2.getD 0 0 = (Ex.tys bs ts).2.getD 1 0 ∧ ((opOf o).arg = 0 ∨ (Ex.tys bs ts).2.getD 0 0 = (opOf o).arg)
            · rw [if_pos hh] at h; exact absurd rfl h
            · rw [if_neg hh]
    · rw [if_pos h1]
end
theorem bnsOk_val : ∀ (bs : List Bn) (prev : Option (List UInt8)), bnsOk prev bs = true → ∀ a ∈ bs, inM a.value
  | [], _, _, a, ha => by cases ha
  | b :: bs, prev, h, a, ha => by
    simp only [bnsOk, Bool.and_eq_true] at h
    rcases List.mem_cons.1 ha with rfl | ha
    · have h1 := h.1
      unfold Bn.ok at h1
      simp only [Bool.and_eq_true] at h1
      have h2 := h1.2
      by_cases ht : a.type = 2
      · rw [if_pos ht] at h2
        have := of_decide_eq_true h2
        unfold inM; omega
      · rw [if_neg ht] at h2
        exact of_decide_eq_true h2
    · exact bnsOk_val bs _ h.2 a ha
theorem bnds_val {bs : List Bn} (hb : bnds bs = true) {a : Bn} (ha : a ∈ bs) : inM a.value := by
  unfold bnds at hb
  simp only [Bool.and_eq_true] at hb
  exact bnsOk_val bs _ hb.1 a ha
/-- what the law asks of types and values -/
theorem types_law {bs : List Bn} (hb : bnds bs = true) (e : Ex) : ((tyR bs e).2 ≠ 0 → (tyR bs e).1 = 0 ∧ evR bs e = (0, (tyR bs e).2)) ∧
    ((tyR bs e).2 = 0 → (evR bs e).2 ≠ 0 → (evR bs e).1 = 0 ∧ ((evR bs e).2 = 24 ∨ (evR bs e).2 = 14)) ∧
    ((tyR bs e).2 = 0 → (evR bs e).2 = 0 → ((tyR bs e).1 = 1 ∧ inM (evR bs e).1) ∨ ((tyR bs e).1 = 2 ∧ ((evR bs e).1 = 0 ∨ (evR bs e).1 = 1))) := by
  refine ⟨fun h => ⟨?_, by unfold evR; rw [if_pos h]⟩, fun h h2 => ?_, fun h h2 => ?_⟩
  · unfold tyR at h ⊢
    by_cases h1 : e.chk = 0
    · rw [if_neg (by simp [h1])] at h ⊢
      rw [if_pos hb] at h ⊢
      exact ty_err2 bs e h
    · rw [if_pos h1]
  · unfold evR at h2 ⊢
    rw [if_neg (by simp [h])] at h2 ⊢
    exact ev_err2 bs e h2
  · have hz := tyR_zero h
    have hev : evR bs e = e.ev bs := by unfold evR; rw [if_neg (by simp [h])]
    rw [hev] at h2 ⊢
    have hty : e.ty bs = ((tyR bs e).1, 0) := by rw [← hz.2.2]; exact Prod.ext rfl h
    obtain ⟨h3, h4⟩ := ev_sound hb e.size e (Nat.le_refl _) (chk_zero hz.1).2.2 _ hty
    obtain ⟨h5, h6⟩ := h4 (e.ev bs).1 (Prod.ext rfl h2)
    rcases h3 with h3 | h3
    · exact .inl ⟨h3, h5⟩
    · exact .inr ⟨h3, h6 h3⟩

/-- the bindings, of which the first j have other values -/
def upB (bs : List Bn) (j : Nat) : List Bn := (bs.take j).map chB ++ bs.drop j
theorem upB_zero (bs : List Bn) : upB bs 0 = bs := by simp [upB]
theorem upB_len (bs : List Bn) (j : Nat) : (upB bs j).length = bs.length := by simp [upB]; omega
theorem upB_end (bs : List Bn) (j : Nat) (h : ¬ j < bs.length) : upB bs j = bs.map chB := by
  unfold upB; rw [List.take_of_length_le (by omega), List.drop_eq_nil_of_le (by omega)]; simp
theorem upB_get (bs : List Bn) (j : Nat) (h : j < bs.length) : (upB bs j)[j]'(by rw [upB_len]; exact h) = bs[j] := by
  unfold upB
  rw [List.getElem_append_right (by simp; omega)]
  simp [show min j bs.length = j by omega]
theorem upB_succ (bs : List Bn) (j : Nat) (h : j < bs.length) : upB bs (j + 1) = (upB bs j).set j (chB bs[j]) := by
  unfold upB
  have hl : ((bs.take j).map chB).length = j := by simp; omega
  rw [List.take_succ_eq_append_getElem h, List.map_append, List.append_assoc, List.drop_eq_getElem_cons h, List.set_append_right _ _ (by omega), hl]
  simp
  rw [List.drop_eq_getElem_cons h]; rfl
theorem rowB_set (rs : List Bn) (j : Nat) (h : j < rs.length) (x : Int) : (rowB rs).set (j * 3 + 2) (.int .i64 x) = rowB (rs.set j { rs[j] with value := x }) := by
  induction rs generalizing j with
  | nil => simp at h
  | cons r rs ih =>
    cases j with
    | zero => simp [rowB, bc]
    | succ j =>
      have h' : j < rs.length := by simpa using h
      have e : (j + 1) * 3 + 2 = (bc r).length + (j * 3 + 2) := by simp [bc]; omega
      have h2 := ih j h'
      simp only [rowB] at h2
      simp only [rowB, List.flatMap_cons, List.set_cons_succ, List.getElem_cons_succ]
      rw [e, ← h2, List.set_append_right _ _ (by omega)]
      congr 2; omega
/-- slices.Clone of bindings: a row of the call's own -/
theorem CloneB_own (bs : List Bn) (p : Option Addr) (c : Nat) (w : World) (hA : BAt w p bs) :
    Calls Tryd.prog 16 #[.slice p bs.length c] w fun e w' => ∃ q d g, e = .returned (.slice q bs.length d) ∧ Ext w w' ∧ (bs.length ≠ 0 → q = some ⟨g, 0, none⟩ ∧ w'.ownsRow w.heap.size 36 3 (.slice (some ⟨g, 0, none⟩) bs.length d) bs.length (rowB bs)) := by
  cases p with
  | none =>
    have h0 : bs = [] := by
      cases bs with
      | nil => rfl
      | cons x bs => obtain ⟨b, o, e, _⟩ := hA.2 0 (by simp); cases e
    subst h0
    exact (CloneB_none c w).mono (fun e w' ⟨h3, h4⟩ => ⟨none, 0, 0, h3, by rw [← h4]; exact Below.refl _ _, fun h => absurd rfl h⟩)
  | some a =>
    refine (CloneB_some bs a c w hA.1.1 ?_).mono ?_
    · by_cases h0 : bs = []
      · subst h0; intro j u hu; simp [rowB] at hu
      · obtain ⟨b, o, e, _⟩ := hA.2 0 (List.length_pos_iff.2 h0)
        cases e
        refine rowB_at (fun j hj => ?_)
        obtain ⟨b', o', e, h3⟩ := hA.2 j hj
        cases e
        exact h3
    · rintro e w' ⟨v, rfl, hown, hE⟩
      rcases Go.Joins.ownsRow_forms hown with ⟨rfl, h2⟩ | ⟨g, cap, rfl⟩
      · exact ⟨none, 0, 0, by rw [h2], hE, fun h => absurd h2 h⟩
      · exact ⟨_, _, g, rfl, hE, fun _ => ⟨rfl, hown⟩⟩
theorem ownsB_at {w : World} {B g n d : Nat} {rs : List Bn} (hown : w.ownsRow B 36 3 (.slice (some ⟨g, 0, none⟩) n d) n (rowB rs)) (hn : rs.length = n) (hf : rs.length ≤ 4398046510976 ∧ ∀ b ∈ rs, b.fits) : BAt w (some ⟨g, 0, none⟩) rs := by
  refine ⟨hf, fun j hj => ⟨g, 0, rfl, ?_⟩⟩
  have hc : ∀ i, i < 3 → w.cell? ⟨g, 0 + j * 3 + i, none⟩ = (bc rs[j])[i]? := fun i hi => by
    rw [Nat.zero_add, World.ownsRow.cellAt hown (j * 3 + i) (by omega), rowB_get rs j i hj hi]
  exact ⟨hc 0 (by omega), hc 1 (by omega), hc 2 (by omega)⟩
theorem fits_ch {bs : List Bn} (hb : bnds bs = true) (hf : bs.length ≤ 4398046510976 ∧ ∀ b ∈ bs, b.fits) : (bs.map chB).length ≤ 4398046510976 ∧ ∀ b ∈ bs.map chB, b.fits := by
  refine ⟨by simpa using hf.1, fun b hbm => ?_⟩
  obtain ⟨a, ha, rfl⟩ := List.mem_map.1 hbm
  obtain ⟨h1, h2, h3⟩ := hf.2 a ha
  refine ⟨h1, h2, ?_⟩
  have hok := bnds_val hb ha
  unfold Ex.wf chB
  unfold inM at hok
  by_cases ht : a.type = 1
  · simp only [ht, if_true]; omega
  · simp only [ht, if_false]; omega

end Go.Proofs.YtgkalcboklhdgaaDoor

namespace Go.Proofs.YtgkalcboklhdgaaDoor
open Go.RowKit
set_option linter.unusedVariables false
set_option linter.unusedSimpArgs false
open Ex

def bitI (x : Bool) : Int := if x then 1 else 0
def arL (a b : Int) (p q : Bool) : List Bn := [⟨[97], 1, a⟩, ⟨[98], 1, b⟩, ⟨[112], 2, bitI p⟩, ⟨[113], 2, bitI q⟩]
abbrev aV (c : UInt8) : Ex := .mk 2 0 [c] 0 []
abbrev aB (k : Int) (x y : Ex) : Ex := .mk 4 k [] 0 [x, y]
abbrev aU (x : Ex) : Ex := .mk 3 2 [] 0 [x]
theorem ar_bnds {a b : Int} (p q : Bool) (ha : inM a) (hb : inM b) : bnds (arL a b p q) = true := by
  have h1 : isNm [97] = true := by decide +kernel
  have h2 : isNm [98] = true := by decide +kernel
  have h3 : isNm [112] = true := by decide +kernel
  have h4 : isNm [113] = true := by decide +kernel
  have h5 : Op.bytesLess [97] [98] = true := by decide +kernel
  have h6 : Op.bytesLess [98] [112] = true := by decide +kernel
  have h7 : Op.bytesLess [112] [113] = true := by decide +kernel
  have h8 : ∀ x : Bool, (bitI x = 0 ∨ bitI x = 1) := by intro x; cases x <;> decide
  simp [bnds, bnsOk, Bn.ok, arL, h1, h2, h3, h4, h5, h6, h7, h8, ha, hb]
theorem ar_of {a b : Int} (p q : Bool) (ha : inM a) (hb : inM b) {e : Ex} {t : Int} (hc : e.chk = 0) (ht : e.ty (arL a b p q) = (t, 0)) : evR (arL a b p q) e = e.ev (arL a b p q) := by
  have htr : tyR (arL a b p q) e = (t, 0) := by
    unfold tyR
    rw [if_neg (by simp [hc]), ar_bnds p q ha hb, if_pos rfl, ht]
  unfold evR
  rw [htr]
  simp
theorem ar_ev {a b : Int} (p q : Bool) (ha : inM a) (hb : inM b) (k : Int) (h1 : 3 ≤ k) (h2 : k ≤ 13) : evR (arL a b p q) (aB k (aV 97) (aV 98)) = opE k a b := by
  have h5 : k = 3 ∨ k = 4 ∨ k = 5 ∨ k = 6 ∨ k = 7 ∨ k = 8 ∨ k = 9 ∨ k = 10 ∨ k = 11 ∨ k = 12 ∨ k = 13 := by omega
  rcases h5 with rfl | rfl | rfl | rfl | rfl | rfl | rfl | rfl | rfl | rfl | rfl
  · exact (ar_of p q ha hb (t := 1) (by decide +kernel) rfl).trans rfl
  · exact (ar_of p q ha hb (t := 1) (by decide +kernel) rfl).trans rfl
  · exact (ar_of p q ha hb (t := 1) (by decide +kernel) rfl).trans rfl
  · exact (ar_of p q ha hb (t := 1) (by decide +kernel) rfl).trans rfl
  · exact (ar_of p q ha hb (t := 1) (by decide +kernel) rfl).trans rfl
  · exact (ar_of p q ha hb (t := 2) (by decide +kernel) rfl).trans rfl
  · exact (ar_of p q ha hb (t := 2) (by decide +kernel) rfl).trans rfl
  · exact (ar_of p q ha hb (t := 2) (by decide +kernel) rfl).trans rfl
  · exact (ar_of p q ha hb (t := 2) (by decide +kernel) rfl).trans rfl
  · exact (ar_of p q ha hb (t := 2) (by decide +kernel) rfl).trans rfl
  · exact (ar_of p q ha hb (t := 2) (by decide +kernel) rfl).trans rfl
abbrev arU : Ex := aU (aB 14 (aV 112) (aV 113))
abbrev arV : Ex := aB 15 (aU (aV 112)) (aU (aV 113))
abbrev arW : Ex := aB 15 (aV 112) (aV 113)
theorem ar_u {a b : Int} (p q : Bool) (ha : inM a) (hb : inM b) : evR (arL a b p q) arU = (bitI (!(p && q)), 0) := by
  refine (ar_of p q ha hb (t := 2) (by decide +kernel) rfl).trans ?_
  cases p <;> cases q <;> rfl
theorem ar_v {a b : Int} (p q : Bool) (ha : inM a) (hb : inM b) : evR (arL a b p q) arV = (bitI (!(p && q)), 0) := by
  refine (ar_of p q ha hb (t := 2) (by decide +kernel) rfl).trans ?_
  cases p <;> cases q <;> rfl
theorem ar_w {a b : Int} (p q : Bool) (ha : inM a) (hb : inM b) : evR (arL a b p q) arW = (bitI (p || q), 0) := by
  refine (ar_of p q ha hb (t := 2) (by decide +kernel) rfl).trans ?_
  cases p <;> cases q <;> rfl
theorem ar_div {a b : Int} (ha : inM a) (hb : b ≠ 0) : opE 6 a b = (a.tdiv b, 0) ∧ opE 7 a b = (a.tmod b, 0) := by
  unfold inM at ha
  have h1 : (a.tdiv b).natAbs ≤ a.natAbs := Int.natAbs_tdiv_le_natAbs a b
  have h2 : (a.tmod b).natAbs ≤ a.natAbs := by rw [Int.natAbs_tmod]; exact Nat.mod_le _ _
  constructor
  · unfold opE opR
    simp only [hb, if_false]
    rw [if_neg (by simp), if_pos]
    · rfl
    · unfold inM
      simp
      omega
  · unfold opE opR
    simp only [hb, if_false]
    rw [if_neg (by simp), if_pos]
    · rfl
    · unfold inM
      simp
      omega
theorem ar_zero (a : Int) : opE 6 a 0 = (0, 24) ∧ opE 7 a 0 = (0, 24) := by
  constructor <;> simp [opE, opR]
theorem ar_sum (a b : Int) : (inM (a + b) → opE 3 a b = (a + b, 0)) ∧ (¬ inM (a + b) → opE 3 a b = (0, 14)) := by
  constructor
  · intro h; simp [opE, opR, h]
  · intro h; simp [opE, opR, h]
/-- what Go asks of a comparison -/
def cmpB (k a b : Int) : Bool := truB k a b
theorem ar_cmp (k a b : Int) (h1 : 8 ≤ k) (h2 : k ≤ 13) : opE k a b = (bitI (truB k a b), 0) := by
  unfold opE opR bitI
  rw [if_neg (show ¬ k = 3 by omega), if_neg (show ¬ k = 4 by omega), if_neg (show ¬ k = 5 by omega), if_neg (show ¬ k = 6 by omega), if_neg (show ¬ k = 7 by omega)]
  cases truB k a b <;> simp [inM]
/-- the facts on quotient and rest -/
theorem ar_facts {a b Q R : Int} (ha : inM a) (hb : inM b) (h0 : b ≠ 0) (hQ : a.tdiv b = Q) (hR : a.tmod b = R) :
    Q * b + R = a ∧ -9223372036854775808 ≤ Q * b ∧ Q * b ≤ 9223372036854775807 ∧ R < max b (-b) ∧ min b (-b) < R ∧ (R ≠ 0 → decide (R < 0) = decide (a < 0)) ∧ inM R ∧ inM Q := by
  unfold inM at *
  have e1 : Q * b + R = a := by rw [← hQ, ← hR]; exact Int.tdiv_mul_add_tmod a b
  have h2 : R.natAbs ≤ a.natAbs := by rw [← hR, Int.natAbs_tmod]; exact Nat.mod_le _ _
  have h3 : R.natAbs < b.natAbs := by rw [← hR, Int.natAbs_tmod]; exact Nat.mod_lt _ (by omega)
  have h1 : Q.natAbs ≤ a.natAbs := by rw [← hQ]; exact Int.natAbs_tdiv_le_natAbs a b
  refine ⟨e1, by omega, by omega, by omega, by omega, fun hne => ?_, by omega, by omega⟩
  have hs : (0 ≤ a → 0 ≤ R) ∧ (a ≤ 0 → R ≤ 0) := by
    constructor
    · intro h; rw [← hR]; exact Int.tmod_nonneg b h
    · intro h; rw [← hR, show a = -(-a) by omega, Int.neg_tmod]
      have := Int.tmod_nonneg b (show 0 ≤ -a by omega)
      omega
  by_cases h : a < 0
  · rw [decide_eq_true h, decide_eq_true (show R < 0 by omega)]
  · rw [decide_eq_false h, decide_eq_false (show ¬ R < 0 by omega)]

set_option maxHeartbeats 1000000 in
theorem arith2_any (bs : List Bn) (pb : Option Addr) (cb bl : Nat) (e : Ex) (p : Option Addr) (c : Nat) (w : World) (hA : Ex.At w p e) (hB : BAt w pb bs) (hl : w.heap[bl]? = some (.cells #[.slice pb bs.length cb] 25 (0, 0))) :
    Gives Tryd.prog 18 #[e.val p c, .pointer (some ⟨bl, 0, none⟩)] w (.tuple #[.int .i64 (evR bs e).1, .int .i64 (evR bs e).2]) := by
  have C1 := Lib.hid (fun W (h : Ext w W) => show Gives _ _ #[.agg #[.int .i64 e.kind, .int .i64 e.op, sV e.name, .int .i64 e.value, .slice p e.args.length c], _] _ (.tuple #[.int .i64 (evR bs e).1, .int .i64 (evR bs e).2]) from Eval_any bs pb cb e p c W (hA.below h) (hB.below h))
  have hv : e.val p c = .agg #[.int .i64 e.kind, .int .i64 e.op, sV e.name, .int .i64 e.value, .slice p e.args.length c] := rfl
  rw [hv]
  clear hv hA hB
  generalize (evR bs e).1 = r0 at *
  generalize (evR bs e).2 = r1 at *
  generalize bs.length = n at *
  have c0 : w.cell? ⟨bl, 0, none⟩ = some (.slice pb n cb) := cell_of hl rfl
  have hlt := lt_of_block hl
  have HX := Lib.hid (show Ext w _ from (Below.refl w.heap.size w).alloc (Nat.le_refl _) (.cells #[.int .i64 e.kind, .int .i64 e.op, sV e.name, .int .i64 e.value, .slice p e.args.length c] tEx))
  unfold Gives
  go_enter Tryd.func18, Tryd.ntmps18
  go_wp2_with fail
  refine (C1.out _ HX.out).mono ?_
  intro w1 hE
  have HX1 := Lib.hid (Ext.trans HX.out hE)
  clear hE c0 hlt
  go_wp2
  go_ret2
  exact ⟨rfl, HX1.out⟩

end Go.Proofs.YtgkalcboklhdgaaDoor

namespace Go.Proofs.YtgkalcboklhdgaaDoor
open Go.RowKit
set_option linter.unusedVariables false
set_option linter.unusedSimpArgs false
open Ex

theorem box2z {W : World} {B : Nat} {a0 a1 : Value} {T : TypeId} (h : W.heap[B]? = some (.cells #[a0, a1] T (0, 0))) : W.cell? ⟨B, 0, none⟩ = some a0 ∧ W.cell? ⟨B, 1, none⟩ = some a1 ∧ True := ⟨cell_of h rfl, cell_of h rfl, trivial⟩
theorem ar_row {W : World} {g : Nat} {T : TypeId} {f : Nat × Nat} {a b : Int} (h : W.heap[g]? = some (.cells #[.int .i64 8, .bool (a == b), .int .i64 9, .bool (a != b), .int .i64 10, .bool (decide (a < b)), .int .i64 11, .bool (decide (a ≤ b)), .int .i64 12, .bool (decide (b < a)), .int .i64 13, .bool (decide (b ≤ a))] T f)) (j : Nat) (hj : j < 6) :
    W.cell? ⟨g, j * 2, none⟩ = some (.int .i64 (8 + (j : Int))) ∧ W.cell? ⟨g, j * 2 + 1, none⟩ = some (.bool (truB (8 + (j : Int)) a b)) := by
  have h6 : j = 0 ∨ j = 1 ∨ j = 2 ∨ j = 3 ∨ j = 4 ∨ j = 5 := by omega
  rcases h6 with rfl | rfl | rfl | rfl | rfl | rfl
  · exact ⟨cell_of h rfl, (cell_of h rfl).trans rfl⟩
  · exact ⟨cell_of h rfl, (cell_of h rfl).trans (by by_cases e : a = b <;> simp [truB, e])⟩
  · exact ⟨cell_of h rfl, (cell_of h rfl).trans rfl⟩
  · exact ⟨cell_of h rfl, (cell_of h rfl).trans rfl⟩
  · exact ⟨cell_of h rfl, (cell_of h rfl).trans rfl⟩
  · exact ⟨cell_of h rfl, (cell_of h rfl).trans rfl⟩
theorem fitV (c : UInt8) : fits (aV c) := by
  unfold fits Ex.wf
  simp [Ex.kind, Ex.op, Ex.name, Ex.value, Ex.args]
theorem BAt_ar {W : World} {g : Nat} {T : TypeId} {f : Nat × Nat} {a b : Int} {p q : Bool} (ha : inM a) (hb : inM b) (h : W.heap[g]? = some (.cells #[sV [97], .int .i64 1, .int .i64 a, sV [98], .int .i64 1, .int .i64 b, sV [112], .int .i64 2, .int .i64 (bitI p), sV [113], .int .i64 2, .int .i64 (bitI q)] T f)) : BAt W (some ⟨g, 0, none⟩) (arL a b p q) := by
  have hbit : ∀ x : Bool, Ex.wf (bitI x) := by intro x; cases x <;> exact ⟨by decide, by decide⟩
  unfold inM at ha hb
  refine ⟨⟨by simp [arL], fun x hx => ?_⟩, fun j hj => ?_⟩
  · simp only [arL, List.mem_cons, List.not_mem_nil, or_false] at hx
    rcases hx with rfl | rfl | rfl | rfl
    · exact ⟨by simp, by unfold Ex.wf; simp, by unfold Ex.wf; simp; omega⟩
    · exact ⟨by simp, by unfold Ex.wf; simp, by unfold Ex.wf; simp; omega⟩
    · exact ⟨by simp, by unfold Ex.wf; simp, hbit p⟩
    · exact ⟨by simp, by unfold Ex.wf; simp, hbit q⟩
  · have hj4 : j = 0 ∨ j = 1 ∨ j = 2 ∨ j = 3 := by simp [arL] at hj; omega
    rcases hj4 with rfl | rfl | rfl | rfl
    · exact ⟨g, 0, rfl, cell_of h rfl, cell_of h rfl, cell_of h rfl⟩
    · exact ⟨g, 0, rfl, cell_of h rfl, cell_of h rfl, cell_of h rfl⟩
    · exact ⟨g, 0, rfl, cell_of h rfl, cell_of h rfl, cell_of h rfl⟩
    · exact ⟨g, 0, rfl, cell_of h rfl, cell_of h rfl, cell_of h rfl⟩

set_option maxRecDepth 100000 in
set_option maxHeartbeats 8000000 in
theorem exprArith_out (a b : Int) (p q : Bool) (w : World) (h : ¬ (inM a ∧ inM b)) :
    Gives Tryd.prog 5 #[.int .i64 a, .int .i64 b, .bool p, .bool q] w (.bool true) := by
  have CA := Lib.hid (fun W => awake_any W)
  unfold inM at h
  unfold Gives
  by_cases h1 : a < -1099511627776
  · clear h
    go_enter Tryd.func5, Tryd.ntmps5
    go_wp2_with fail
    refine (CA.out _).mono ?_
    intro w1 hE
    have HE := Lib.hid hE
    clear hE
    go_wp2
    go_ret
    exact ⟨rfl, HE.out⟩
  by_cases h2 : 1099511627776 < a
  · clear h
    go_enter Tryd.func5, Tryd.ntmps5
    go_wp2_with fail
    refine (CA.out _).mono ?_
    intro w1 hE
    have HE := Lib.hid hE
    clear hE
    go_wp2
    go_ret
    exact ⟨rfl, HE.out⟩
  by_cases h3 : b < -1099511627776
  · clear h
    go_enter Tryd.func5, Tryd.ntmps5
    go_wp2_with fail
    refine (CA.out _).mono ?_
    intro w1 hE
    have HE := Lib.hid hE
    clear hE
    go_wp2
    go_ret
    exact ⟨rfl, HE.out⟩
  have h4 : 1099511627776 < b := by omega
  clear h
  go_enter Tryd.func5, Tryd.ntmps5
  go_wp2_with fail
  refine (CA.out _).mono ?_
  intro w1 hE
  have HE := Lib.hid hE
  clear hE
  go_wp2
  go_ret
  exact ⟨rfl, HE.out⟩

set_option maxRecDepth 100000 in
set_option maxHeartbeats 8000000 in
theorem exprArith_in (a b : Int) (p q : Bool) (w : World) (ha : inM a) (hb : inM b) :
    Gives Tryd.prog 5 #[.int .i64 a, .int .i64 b, .bool p, .bool q] w (.bool true) := by
  have CA := Lib.hid (fun W => awake_any W)
  have C2 := Lib.hid (fun bl g (e : Ex) q0 d0 W (hA : Ex.At W q0 e) (hB : BAt W (some ⟨g, 0, none⟩) (arL a b p q)) (hl : W.heap[bl]? = some (.cells #[.slice (some ⟨g, 0, none⟩) 4 4] 25 (0, 0))) => show Gives Tryd.prog 18 #[e.val q0 d0, .pointer (some ⟨bl, 0, none⟩)] W (.tuple #[.int .i64 (evR (arL a b p q) e).1, .int .i64 (evR (arL a b p q) e).2]) from arith2_any (arL a b p q) (some ⟨g, 0, none⟩) 4 bl e q0 d0 W hA hB hl)
  have CB := Lib.hid (fun (k : Int) (h1 : -100 ≤ k) (h2 : k ≤ 100) W => show Calls Tryd.prog 20 #[.int .i64 k, .agg #[.int .i64 2, .int .i64 0, sV [97], .int .i64 0, .slice none 0 0], .agg #[.int .i64 2, .int .i64 0, sV [98], .int .i64 0, .slice none 0 0]] W (fun r w' => ∃ q0 d0, r = .returned ((aB k (aV 97) (aV 98)).val q0 d0) ∧ Ex.At w' q0 (aB k (aV 97) (aV 98)) ∧ Ext W w') from
    (binary_any (fun _ => True) k h1 h2 (aV 97) (aV 98) none none 0 0 W (AtB_leaf _ _ _ (fitV 97)) (AtB_leaf _ _ _ (fitV 98))).mono fun r w' ⟨q0, d0, h3, h4, h5⟩ => ⟨q0, d0, h3, h4.at, h5⟩)
  have CBPQ := Lib.hid (fun (k : Int) (h1 : -100 ≤ k) (h2 : k ≤ 100) W => show Calls Tryd.prog 20 #[.int .i64 k, .agg #[.int .i64 2, .int .i64 0, sV [112], .int .i64 0, .slice none 0 0], .agg #[.int .i64 2, .int .i64 0, sV [113], .int .i64 0, .slice none 0 0]] W (fun r w' => ∃ q0 d0, r = .returned ((aB k (aV 112) (aV 113)).val q0 d0) ∧ Ex.At w' q0 (aB k (aV 112) (aV 113)) ∧ Ext W w') from
    (binary_any (fun _ => True) k h1 h2 (aV 112) (aV 113) none none 0 0 W (AtB_leaf _ _ _ (fitV 112)) (AtB_leaf _ _ _ (fitV 113))).mono fun r w' ⟨q0, d0, h3, h4, h5⟩ => ⟨q0, d0, h3, h4.at, h5⟩)
  have CBV := Lib.hid (fun q1 d1 q2 d2 W (h1 : Ex.At W q1 (aU (aV 112))) (h2 : Ex.At W q2 (aU (aV 113))) => show Calls Tryd.prog 20 #[.int .i64 15, (aU (aV 112)).val q1 d1, (aU (aV 113)).val q2 d2] W (fun r w' => ∃ q0 d0, r = .returned (arV.val q0 d0) ∧ Ex.At w' q0 arV ∧ Ext W w') from
    (binary_any (fun _ => True) 15 (by decide) (by decide) (aU (aV 112)) (aU (aV 113)) q1 q2 d1 d2 W (h1.toB.imp fun _ _ _ => trivial) (h2.toB.imp fun _ _ _ => trivial)).mono fun r w' ⟨q0, d0, h3, h4, h5⟩ => ⟨q0, d0, h3, h4.at, h5⟩)
  have C3 := Lib.hid (fun (e : Ex) q0 d0 W hA => arith3_any e q0 d0 W hA)
  have C3n := Lib.hid (fun (c : UInt8) W => show Calls Tryd.prog 21 #[.agg #[.int .i64 2, .int .i64 0, sV [c], .int .i64 0, .slice none 0 0]] W (fun r w' => ∃ q0 d0, r = .returned ((aU (aV c)).val q0 d0) ∧ Ex.At w' q0 (aU (aV c)) ∧ Ext W w') from arith3_any (aV c) none 0 W (AtB_leaf (fun _ => True) _ _ (fitV c)).at)
  have C1 := Lib.hid (fun x W => show Calls Tryd.prog 17 #[.bool x] W (fun e w' => e = .returned (.int .i64 (bitI x)) ∧ W = w') from arith1_any x W)
  have CN := Lib.hid (fun (c : UInt8) (W : World) => show Calls Tryd.prog 19 #[.string ⟨#[c]⟩] W (fun r w' => r = .returned (.agg #[.int .i64 2, .int .i64 0, sV [c], .int .i64 0, .slice none 0 0]) ∧ Ext W w') from nam_any [c] W)
  have HBAR := Lib.hid (fun (W : World) g T f h => BAt_ar (W := W) (g := g) (T := T) (f := f) (p := p) (q := q) ha hb h)
  have HQ6 := Lib.hid (ar_ev p q ha hb 6 (by omega) (by omega))
  have HQ7 := Lib.hid (ar_ev p q ha hb 7 (by omega) (by omega))
  have HQ3 := Lib.hid (ar_ev p q ha hb 3 (by omega) (by omega))
  have H6 := Lib.hid (show opE 6 a b = opE 6 a b from rfl)
  have H7 := Lib.hid (show opE 7 a b = opE 7 a b from rfl)
  have H3 := Lib.hid (show opE 3 a b = opE 3 a b from rfl)
  have D6 := Lib.hid (fun q0 d0 W (hA : Ex.At W q0 (aB 6 (aV 97) (aV 98))) (hB : BAt W (some ⟨w.heap.size, 0, none⟩) (arL a b p q)) hl => show Gives _ _ _ W (.tuple #[.int .i64 (opE 6 a b).1, .int .i64 (opE 6 a b).2]) from HQ6.out ▸ C2.out (w.heap.size + 1) w.heap.size _ q0 d0 W hA hB hl)
  have D7 := Lib.hid (fun q0 d0 W (hA : Ex.At W q0 (aB 7 (aV 97) (aV 98))) (hB : BAt W (some ⟨w.heap.size, 0, none⟩) (arL a b p q)) hl => show Gives _ _ _ W (.tuple #[.int .i64 (opE 7 a b).1, .int .i64 (opE 7 a b).2]) from HQ7.out ▸ C2.out (w.heap.size + 1) w.heap.size _ q0 d0 W hA hB hl)
  have D3 := Lib.hid (fun q0 d0 W (hA : Ex.At W q0 (aB 3 (aV 97) (aV 98))) (hB : BAt W (some ⟨w.heap.size, 0, none⟩) (arL a b p q)) hl => show Gives _ _ _ W (.tuple #[.int .i64 (opE 3 a b).1, .int .i64 (opE 3 a b).2]) from HQ3.out ▸ C2.out (w.heap.size + 1) w.heap.size _ q0 d0 W hA hB hl)
  have Z6 := Lib.hid (fun h : b = 0 => show opE 6 a b = (0, 24) ∧ opE 7 a b = (0, 24) by rw [h]; exact ar_zero a)
  have Y6 := Lib.hid (fun h : b ≠ 0 => show opE 6 a b = (a.tdiv b, 0) ∧ opE 7 a b = (a.tmod b, 0) from ar_div ha h)
  have Z3 := Lib.hid (ar_sum a b)
  generalize opE 6 a b = o6 at *
  generalize opE 7 a b = o7 at *
  generalize opE 3 a b = o3 at *
  obtain ⟨qv, qe⟩ := o6
  obtain ⟨rv, re⟩ := o7
  obtain ⟨sv0, se⟩ := o3
  have HQC := Lib.hid (fun k h1 h2 => (ar_ev p q ha hb k (by omega) h2).trans (ar_cmp k a b h1 h2))
  have DC := Lib.hid (fun (k : Int) (h1 : 8 ≤ k) (h2 : k ≤ 13) q0 d0 W (hA : Ex.At W q0 (aB k (aV 97) (aV 98))) (hB : BAt W (some ⟨w.heap.size, 0, none⟩) (arL a b p q)) hl => show Gives _ _ _ W (.tuple #[.int .i64 (bitI (truB k a b)), .int .i64 0]) from HQC.out k h1 h2 ▸ C2.out (w.heap.size + 1) w.heap.size _ q0 d0 W hA hB hl)
  have HQU := Lib.hid (ar_u p q ha hb)
  have HQV := Lib.hid (ar_v p q ha hb)
  have HQW := Lib.hid (ar_w p q ha hb)
  have DU := Lib.hid (fun q0 d0 W (hA : Ex.At W q0 arU) (hB : BAt W (some ⟨w.heap.size, 0, none⟩) (arL a b p q)) hl => show Gives _ _ _ W (.tuple #[.int .i64 (bitI (!(p && q))), .int .i64 0]) from HQU.out ▸ C2.out (w.heap.size + 1) w.heap.size _ q0 d0 W hA hB hl)
  have DV := Lib.hid (fun q0 d0 W (hA : Ex.At W q0 arV) (hB : BAt W (some ⟨w.heap.size, 0, none⟩) (arL a b p q)) hl => show Gives _ _ _ W (.tuple #[.int .i64 (bitI (!(p && q))), .int .i64 0]) from HQV.out ▸ C2.out (w.heap.size + 1) w.heap.size _ q0 d0 W hA hB hl)
  have DW := Lib.hid (fun q0 d0 W (hA : Ex.At W q0 arW) (hB : BAt W (some ⟨w.heap.size, 0, none⟩) (arL a b p q)) hl => show Gives _ _ _ W (.tuple #[.int .i64 (bitI (p || q)), .int .i64 0]) from HQW.out ▸ C2.out (w.heap.size + 1) w.heap.size _ q0 d0 W hA hB hl)
  have HAA := Lib.hid (And.intro ha hb)
  unfold inM at ha hb
  obtain ⟨ha1, ha2⟩ := ha
  obtain ⟨hb1, hb2⟩ := hb
  unfold Gives
  go_enter Tryd.func5, Tryd.ntmps5
  have HX := Lib.hid (show Ext w w from Below.refl _ _)
  go_wp2_with fail
  refine (C1.out p _).mono ?_
  rintro _ _ ⟨rfl, rfl⟩
  go_wp2_with fail
  refine (C1.out q _).mono ?_
  rintro _ _ ⟨rfl, rfl⟩
  go_wp2_with fail
  have hRr : ((w.alloc (.cells #[.string ⟨#[97]⟩, .int .i64 1, .int .i64 a, .string ⟨#[98]⟩, .int .i64 1, .int .i64 b, .string ⟨#[112]⟩, .int .i64 2, .int .i64 (bitI p), .string ⟨#[113]⟩, .int .i64 2, .int .i64 (bitI q)] 36)).alloc (.cells #[.slice (some ⟨w.heap.size, 0, none⟩) 4 4] 25)).heap[w.heap.size]? = _ := (Below.heap_alloc _ _ _ (by simp)).trans (alloc_here w (.cells #[.string ⟨#[97]⟩, .int .i64 1, .int .i64 a, .string ⟨#[98]⟩, .int .i64 1, .int .i64 b, .string ⟨#[112]⟩, .int .i64 2, .int .i64 (bitI p), .string ⟨#[113]⟩, .int .i64 2, .int .i64 (bitI q)] 36))
  have hLl := alloc_here (w.alloc (.cells #[.string ⟨#[97]⟩, .int .i64 1, .int .i64 a, .string ⟨#[98]⟩, .int .i64 1, .int .i64 b, .string ⟨#[112]⟩, .int .i64 2, .int .i64 (bitI p), .string ⟨#[113]⟩, .int .i64 2, .int .i64 (bitI q)] 36)) (.cells #[.slice (some ⟨w.heap.size, 0, none⟩) 4 4] 25)
  rw [World.size_alloc] at hLl
  have hE : Ext w ((w.alloc (.cells #[.string ⟨#[97]⟩, .int .i64 1, .int .i64 a, .string ⟨#[98]⟩, .int .i64 1, .int .i64 b, .string ⟨#[112]⟩, .int .i64 2, .int .i64 (bitI p), .string ⟨#[113]⟩, .int .i64 2, .int .i64 (bitI q)] 36)).alloc (.cells #[.slice (some ⟨w.heap.size, 0, none⟩) 4 4] 25)) := ((Below.refl _ _).alloc (Nat.le_refl _) (.cells #[.string ⟨#[97]⟩, .int .i64 1, .int .i64 a, .string ⟨#[98]⟩, .int .i64 1, .int .i64 b, .string ⟨#[112]⟩, .int .i64 2, .int .i64 (bitI p), .string ⟨#[113]⟩, .int .i64 2, .int .i64 (bitI q)] 36)).alloc (by simp <;> omega) (.cells #[.slice (some ⟨w.heap.size, 0, none⟩) 4 4] 25)
  have HBA := Lib.hid (HBAR.out _ _ _ _ hRr)
  have KL := Lib.hid hLl
  clear HX hRr hLl
  have HX := Lib.hid hE
  clear hE
  generalize (w.alloc (.cells #[.string ⟨#[97]⟩, .int .i64 1, .int .i64 a, .string ⟨#[98]⟩, .int .i64 1, .int .i64 b, .string ⟨#[112]⟩, .int .i64 2, .int .i64 (bitI p), .string ⟨#[113]⟩, .int .i64 2, .int .i64 (bitI q)] 36)).alloc (.cells #[.slice (some ⟨w.heap.size, 0, none⟩) 4 4] 25) = W0 at *
  go_wp2_with fail
  refine (CN.out 97 W0).mono ?_
  rintro _ w1 ⟨rfl, hE⟩
  replace hE : Ext _ w1 := hE
  replace KL := Lib.hid ((hE.below.block _ (lt_of_block KL.out)).trans KL.out)
  replace HBA := Lib.hid (HBA.out.below hE)
  replace HX := Lib.hid (Ext.trans HX.out hE)
  clear hE
  go_wp2_with fail
  refine (CN.out 98 _).mono ?_
  rintro _ w2 ⟨rfl, hE⟩
  replace hE : Ext _ w2 := hE
  replace KL := Lib.hid ((hE.below.block _ (lt_of_block KL.out)).trans KL.out)
  replace HBA := Lib.hid (HBA.out.below hE)
  replace HX := Lib.hid (Ext.trans HX.out hE)
  clear hE
  obtain ⟨hbx, hby, hE⟩ := two_boxes w2 (.int .i64 2) (.int .i64 0) (sV [97]) (.int .i64 0) (.slice none 0 0) (.int .i64 2) (.int .i64 0) (sV [98]) (.int .i64 0) (.slice none 0 0) tEx
  have Kx := Lib.hid hbx
  have Ky := Lib.hid hby
  replace KL := Lib.hid ((hE.below.block _ (lt_of_block KL.out)).trans KL.out)
  replace HBA := Lib.hid (HBA.out.below hE)
  replace HX := Lib.hid (Ext.trans HX.out hE)
  clear hbx hby hE
  go_wp2_with fail
  refine (CB.out 6 (by omega) (by omega) _).mono ?_
  rintro _ w3 ⟨q3, d3, rfl, hA3, hE⟩
  replace hE : Ext _ w3 := hE
  replace Kx := Lib.hid ((hE.below.block _ (lt_of_block Kx.out)).trans Kx.out)
  replace Ky := Lib.hid ((hE.below.block _ (lt_of_block Ky.out)).trans Ky.out)
  replace KL := Lib.hid ((hE.below.block _ (lt_of_block KL.out)).trans KL.out)
  replace HBA := Lib.hid (HBA.out.below hE)
  replace HX := Lib.hid (Ext.trans HX.out hE)
  have HA3 := Lib.hid hA3
  clear hA3
  clear hE
  obtain ⟨x0, x1, x2, x3, x4, x5⟩ := box5z Kx.out
  have ltx := lt_of_block Kx.out
  obtain ⟨y0, y1, y2, y3, y4, y5⟩ := box5z Ky.out
  have lty := lt_of_block Ky.out
  go_wp2_with fail
  refine (D6.out _ _ _ HA3.out HBA.out KL.out).mono ?_
  intro w4 hE
  replace hE : Ext _ w4 := hE
  clear x0 x1 x2 x3 x4 x5 ltx
  clear y0 y1 y2 y3 y4 y5 lty
  replace Kx := Lib.hid ((hE.below.block _ (lt_of_block Kx.out)).trans Kx.out)
  replace Ky := Lib.hid ((hE.below.block _ (lt_of_block Ky.out)).trans Ky.out)
  replace KL := Lib.hid ((hE.below.block _ (lt_of_block KL.out)).trans KL.out)
  replace HBA := Lib.hid (HBA.out.below hE)
  replace HX := Lib.hid (Ext.trans HX.out hE)
  clear hE
  obtain ⟨x0, x1, x2, x3, x4, x5⟩ := box5z Kx.out
  have ltx := lt_of_block Kx.out
  obtain ⟨y0, y1, y2, y3, y4, y5⟩ := box5z Ky.out
  have lty := lt_of_block Ky.out
  go_wp2_with fail
  refine (CB.out 7 (by omega) (by omega) _).mono ?_
  rintro _ w5 ⟨q5, d5, rfl, hA5, hE⟩
  replace hE : Ext _ w5 := hE
  clear x0 x1 x2 x3 x4 x5 ltx
  clear y0 y1 y2 y3 y4 y5 lty
  replace Kx := Lib.hid ((hE.below.block _ (lt_of_block Kx.out)).trans Kx.out)
  replace Ky := Lib.hid ((hE.below.block _ (lt_of_block Ky.out)).trans Ky.out)
  replace KL := Lib.hid ((hE.below.block _ (lt_of_block KL.out)).trans KL.out)
  replace HBA := Lib.hid (HBA.out.below hE)
  replace HX := Lib.hid (Ext.trans HX.out hE)
  have HA5 := Lib.hid hA5
  clear hA5
  clear hE
  obtain ⟨x0, x1, x2, x3, x4, x5⟩ := box5z Kx.out
  have ltx := lt_of_block Kx.out
  obtain ⟨y0, y1, y2, y3, y4, y5⟩ := box5z Ky.out
  have lty := lt_of_block Ky.out
  go_wp2_with fail
  refine (D7.out _ _ _ HA5.out HBA.out KL.out).mono ?_
  intro w6 hE
  replace hE : Ext _ w6 := hE
  clear x0 x1 x2 x3 x4 x5 ltx
  clear y0 y1 y2 y3 y4 y5 lty
  replace Kx := Lib.hid ((hE.below.block _ (lt_of_block Kx.out)).trans Kx.out)
  replace Ky := Lib.hid ((hE.below.block _ (lt_of_block Ky.out)).trans Ky.out)
  replace KL := Lib.hid ((hE.below.block _ (lt_of_block KL.out)).trans KL.out)
  replace HBA := Lib.hid (HBA.out.below hE)
  replace HX := Lib.hid (Ext.trans HX.out hE)
  clear hE
  obtain ⟨x0, x1, x2, x3, x4, x5⟩ := box5z Kx.out
  have ltx := lt_of_block Kx.out
  obtain ⟨y0, y1, y2, y3, y4, y5⟩ := box5z Ky.out
  have lty := lt_of_block Ky.out
  clear x0 x1 x2 x3 x4 x5 ltx
  clear y0 y1 y2 y3 y4 y5 lty
  go_upto_if 79 with fail
  go_cut [] from 31 to 127 (fun wx => w6 = wx)
  case first =>
    by_cases h0 : b = 0
    · have hb0 : (b == 0) = true := by simpa using h0
      obtain ⟨h1, h2⟩ := Z6.out h0
      obtain ⟨rfl, rfl⟩ := Prod.mk.inj h1
      obtain ⟨rfl, rfl⟩ := Prod.mk.inj h2
      clear h0 h1 h2
      go_wp2_with fail
      go_meet
      exact rfl
    · have hb0 : (b == 0) = false := by simpa using h0
      obtain ⟨h1, h2⟩ := Y6.out h0
      have hf := ar_facts HAA.out.1 HAA.out.2 h0 rfl rfl
      generalize a.tdiv b = Q0 at *
      generalize a.tmod b = R0 at *
      obtain ⟨h3, rfl⟩ := Prod.mk.inj h1
      obtain ⟨h4, rfl⟩ := Prod.mk.inj h2
      obtain ⟨Q, rfl⟩ : ∃ Q, Q = qv := ⟨_, rfl⟩
      obtain ⟨R, rfl⟩ : ∃ R, R = rv := ⟨_, rfl⟩
      subst h3 h4
      clear h0 h1 h2
      have e1 := hf.1
      have hm3 := hf.2.1
      have hm4 := hf.2.2.1
      have hm1 : wrap64 (Q * b) = Q * b := by unfold wrap64; omega
      have hm2 : wrap64 (Q * b + R) = a := by rw [e1]; unfold wrap64; omega
      have hm7 : ¬ max b (-b) ≤ R := by have := hf.2.2.2.1; omega
      have hm8 : ¬ R ≤ min b (-b) := by have := hf.2.2.2.2.1; omega
      have hsg := hf.2.2.2.2.2.1
      have hRi := hf.2.2.2.2.2.2.1
      clear hf e1
      by_cases hr0 : R = 0
      · have hr1 : (R == 0) = true := by simpa using hr0
        have hr2 : (R != 0) = false := by simpa using hr0
        clear hr0 hsg
        go_wp2_with fail
        go_meet
        exact rfl
      · have hr1 : (R == 0) = false := by simpa using hr0
        have hr2 : (R != 0) = true := by simpa using hr0
        have hsg := hsg hr0
        by_cases hneg : a < 0
        · have hrn : R < 0 := by rw [decide_eq_true hneg] at hsg; exact of_decide_eq_true hsg
          clear hsg hr0
          go_wp2_with fail
          go_meet
          exact rfl
        · have hrn : ¬ R < 0 := by rw [decide_eq_false hneg] at hsg; exact of_decide_eq_false hsg
          clear hsg hr0
          go_wp2_with fail
          go_meet
          exact rfl
  case rest =>
    subst hcut
    obtain ⟨x0, x1, x2, x3, x4, x5⟩ := box5z Kx.out
    have ltx := lt_of_block Kx.out
    obtain ⟨y0, y1, y2, y3, y4, y5⟩ := box5z Ky.out
    have lty := lt_of_block Ky.out
    go_wp2_with fail
    refine (CB.out 3 (by omega) (by omega) _).mono ?_
    rintro _ w7 ⟨q7, d7, rfl, hA7, hE⟩
    replace hE : Ext _ w7 := hE
    clear x0 x1 x2 x3 x4 x5 ltx
    clear y0 y1 y2 y3 y4 y5 lty
    replace Kx := Lib.hid ((hE.below.block _ (lt_of_block Kx.out)).trans Kx.out)
    replace Ky := Lib.hid ((hE.below.block _ (lt_of_block Ky.out)).trans Ky.out)
    replace KL := Lib.hid ((hE.below.block _ (lt_of_block KL.out)).trans KL.out)
    replace HBA := Lib.hid (HBA.out.below hE)
    replace HX := Lib.hid (Ext.trans HX.out hE)
    have HA7 := Lib.hid hA7
    clear hA7
    clear hE
    obtain ⟨x0, x1, x2, x3, x4, x5⟩ := box5z Kx.out
    have ltx := lt_of_block Kx.out
    obtain ⟨y0, y1, y2, y3, y4, y5⟩ := box5z Ky.out
    have lty := lt_of_block Ky.out
    go_wp2_with fail
    refine (D3.out _ _ _ HA7.out HBA.out KL.out).mono ?_
    intro w8 hE
    replace hE : Ext _ w8 := hE
    clear x0 x1 x2 x3 x4 x5 ltx
    clear y0 y1 y2 y3 y4 y5 lty
    replace Kx := Lib.hid ((hE.below.block _ (lt_of_block Kx.out)).trans Kx.out)
    replace Ky := Lib.hid ((hE.below.block _ (lt_of_block Ky.out)).trans Ky.out)
    replace KL := Lib.hid ((hE.below.block _ (lt_of_block KL.out)).trans KL.out)
    replace HBA := Lib.hid (HBA.out.below hE)
    replace HX := Lib.hid (Ext.trans HX.out hE)
    clear hE
    obtain ⟨x0, x1, x2, x3, x4, x5⟩ := box5z Kx.out
    have ltx := lt_of_block Kx.out
    obtain ⟨y0, y1, y2, y3, y4, y5⟩ := box5z Ky.out
    have lty := lt_of_block Ky.out
    clear x0 x1 x2 x3 x4 x5 ltx
    clear y0 y1 y2 y3 y4 y5 lty
    go_upto_region 15 with fail
    go_cut [159] from 136 to 158 (fun v wx => v = .bool false ∧ w8 = wx)
    case first =>
      obtain ⟨s1, s2⟩ := Z3.out
      by_cases hs1 : a + b < -1099511627776
      · obtain ⟨rfl, rfl⟩ := Prod.mk.inj (s2 (by unfold inM; omega))
        clear s1 s2
        go_wp2_with fail
        go_meet
        exact ⟨rfl, rfl⟩
      · by_cases hs2 : 1099511627776 < a + b
        · obtain ⟨rfl, rfl⟩ := Prod.mk.inj (s2 (by unfold inM; omega))
          clear s1 s2
          go_wp2_with fail
          go_meet
          exact ⟨by rw [show decide (a + b ≤ 1099511627776) = false from decide_eq_false (by omega)], rfl⟩
        · obtain ⟨rfl, rfl⟩ := Prod.mk.inj (s1 (by unfold inM; omega))
          clear s1 s2
          go_wp2_with fail
          go_meet
          exact ⟨rfl, rfl⟩
    case rest =>
      obtain ⟨rfl, rfl⟩ := hcut
      go_wp2
      have hE : Ext w8 (w8.alloc (.cells #[.int .i64 8, .bool (a == b), .int .i64 9, .bool (a != b), .int .i64 10, .bool (decide (a < b)), .int .i64 11, .bool (decide (a ≤ b)), .int .i64 12, .bool (decide (b < a)), .int .i64 13, .bool (decide (b ≤ a))] 41)) := (Below.refl _ _).alloc (Nat.le_refl _) _
      have KT := Lib.hid (alloc_here w8 (.cells #[.int .i64 8, .bool (a == b), .int .i64 9, .bool (a != b), .int .i64 10, .bool (decide (a < b)), .int .i64 11, .bool (decide (a ≤ b)), .int .i64 12, .bool (decide (b < a)), .int .i64 13, .bool (decide (b ≤ a))] 41))
      replace Kx := Lib.hid ((hE.below.block _ (lt_of_block Kx.out)).trans Kx.out)
      replace Ky := Lib.hid ((hE.below.block _ (lt_of_block Ky.out)).trans Ky.out)
      replace KL := Lib.hid ((hE.below.block _ (lt_of_block KL.out)).trans KL.out)
      replace HBA := Lib.hid (HBA.out.below hE)
      replace HX := Lib.hid (Ext.trans HX.out hE)
      clear hE
      generalize w8.alloc (.cells #[.int .i64 8, .bool (a == b), .int .i64 9, .bool (a != b), .int .i64 10, .bool (decide (a < b)), .int .i64 11, .bool (decide (a ≤ b)), .int .i64 12, .bool (decide (b < a)), .int .i64 13, .bool (decide (b ≤ a))] 41) = w9 at *
      generalize w8.heap.size = gT at *
      go_loopw [186] (fun i wr => ∃ j : Nat, j ≤ 6 ∧ i = .int .i64 (j : Int) ∧ Ext w9 wr) (fun i _ => 6 - (intOf i).toNat)
      case atStart => exact ⟨0, by omega, rfl, Below.refl _ _⟩
      case round =>
        obtain ⟨j, hj, rfl, hE⟩ := hrel
        have HEr := Lib.hid hE
        replace Kx := Lib.hid ((hE.below.block _ (lt_of_block Kx.out)).trans Kx.out)
        replace Ky := Lib.hid ((hE.below.block _ (lt_of_block Ky.out)).trans Ky.out)
        replace KL := Lib.hid ((hE.below.block _ (lt_of_block KL.out)).trans KL.out)
        replace KT := Lib.hid ((hE.below.block _ (lt_of_block KT.out)).trans KT.out)
        replace HBA := Lib.hid (HBA.out.below hE)
        replace HX := Lib.hid (Ext.trans HX.out hE)
        clear hE
        by_cases hlt : j < 6
        · obtain ⟨t0, t1⟩ := ar_row KT.out j hlt
          have ltT := lt_of_block KT.out
          obtain ⟨kk, hkk⟩ : ∃ kk : Int, kk = 8 + (j : Int) := ⟨_, rfl⟩
          rw [← hkk] at t0 t1
          have hk1 : 8 ≤ kk := by omega
          have hk2 : kk ≤ 13 := by omega
          have DCk := Lib.hid (DC.out kk hk1 hk2)
          have CBk := Lib.hid (CB.out kk (by omega) (by omega))
          generalize truB kk a b = B at *
          clear hkk hk1 hk2
          obtain ⟨x0, x1, x2, x3, x4, x5⟩ := box5z Kx.out
          have ltx := lt_of_block Kx.out
          obtain ⟨y0, y1, y2, y3, y4, y5⟩ := box5z Ky.out
          have lty := lt_of_block Ky.out
          have hE : Ext wr (wr.alloc (.cells #[.int .i64 kk, .bool B] 41)) := (Below.refl _ _).alloc (Nat.le_refl _) _
          have Kc := Lib.hid (alloc_here wr (.cells #[.int .i64 kk, .bool B] 41))
          replace Kx := Lib.hid ((hE.below.block _ (lt_of_block Kx.out)).trans Kx.out)
          replace Ky := Lib.hid ((hE.below.block _ (lt_of_block Ky.out)).trans Ky.out)
          replace KL := Lib.hid ((hE.below.block _ (lt_of_block KL.out)).trans KL.out)
          replace KT := Lib.hid ((hE.below.block _ (lt_of_block KT.out)).trans KT.out)
          replace HEr := Lib.hid (Ext.trans HEr.out hE)
          replace HBA := Lib.hid (HBA.out.below hE)
          replace HX := Lib.hid (Ext.trans HX.out hE)
          clear hE
          go_wp2_with fail
          refine (CBk.out _).mono ?_
          rintro _ w21 ⟨q7, d7, rfl, hA7, hE⟩
          replace hE : Ext _ w21 := hE
          clear x0 x1 x2 x3 x4 x5 ltx
          clear y0 y1 y2 y3 y4 y5 lty
          replace Kx := Lib.hid ((hE.below.block _ (lt_of_block Kx.out)).trans Kx.out)
          replace Ky := Lib.hid ((hE.below.block _ (lt_of_block Ky.out)).trans Ky.out)
          replace Kc := Lib.hid ((hE.below.block _ (lt_of_block Kc.out)).trans Kc.out)
          replace KL := Lib.hid ((hE.below.block _ (lt_of_block KL.out)).trans KL.out)
          replace KT := Lib.hid ((hE.below.block _ (lt_of_block KT.out)).trans KT.out)
          replace HEr := Lib.hid (Ext.trans HEr.out hE)
          replace HBA := Lib.hid (HBA.out.below hE)
          replace HX := Lib.hid (Ext.trans HX.out hE)
          have HA7 := Lib.hid hA7
          clear hA7 t0 t1 ltT
          clear hE
          obtain ⟨x0, x1, x2, x3, x4, x5⟩ := box5z Kx.out
          have ltx := lt_of_block Kx.out
          obtain ⟨y0, y1, y2, y3, y4, y5⟩ := box5z Ky.out
          have lty := lt_of_block Ky.out
          obtain ⟨c0, c1, c2⟩ := box2z Kc.out
          have ltc := lt_of_block Kc.out
          go_wp2_with fail
          refine (DCk.out _ _ _ HA7.out HBA.out KL.out).mono ?_
          intro w22 hE
          replace hE : Ext _ w22 := hE
          clear x0 x1 x2 x3 x4 x5 ltx
          clear y0 y1 y2 y3 y4 y5 lty
          clear c0 c1 c2 ltc
          replace Kx := Lib.hid ((hE.below.block _ (lt_of_block Kx.out)).trans Kx.out)
          replace Ky := Lib.hid ((hE.below.block _ (lt_of_block Ky.out)).trans Ky.out)
          replace Kc := Lib.hid ((hE.below.block _ (lt_of_block Kc.out)).trans Kc.out)
          replace KL := Lib.hid ((hE.below.block _ (lt_of_block KL.out)).trans KL.out)
          replace KT := Lib.hid ((hE.below.block _ (lt_of_block KT.out)).trans KT.out)
          replace HEr := Lib.hid (Ext.trans HEr.out hE)
          replace HBA := Lib.hid (HBA.out.below hE)
          replace HX := Lib.hid (Ext.trans HX.out hE)
          clear hE
          obtain ⟨x0, x1, x2, x3, x4, x5⟩ := box5z Kx.out
          have ltx := lt_of_block Kx.out
          obtain ⟨y0, y1, y2, y3, y4, y5⟩ := box5z Ky.out
          have lty := lt_of_block Ky.out
          obtain ⟨c0, c1, c2⟩ := box2z Kc.out
          have ltc := lt_of_block Kc.out
          go_wp2_with fail
          refine (C1.out B _).mono ?_
          rintro _ _ ⟨rfl, rfl⟩
          clear x0 x1 x2 x3 x4 x5 ltx
          clear y0 y1 y2 y3 y4 y5 lty
          clear c0 c1 c2 ltc
          go_wp2
          go_roundw
          case rel => exact ⟨j + 1, by omega, by go_num, HEr.out⟩
          case measure => simp [intOf]; omega
        · have hj6 : j = 6 := by omega
          subst hj6
          clear HEr
          obtain ⟨x0, x1, x2, x3, x4, x5⟩ := box5z Kx.out
          have ltx := lt_of_block Kx.out
          obtain ⟨y0, y1, y2, y3, y4, y5⟩ := box5z Ky.out
          have lty := lt_of_block Ky.out
          go_wp2_with fail
          refine (CN.out 112 _).mono ?_
          rintro _ w31 ⟨rfl, hE⟩
          replace hE : Ext _ w31 := hE
          clear x0 x1 x2 x3 x4 x5 ltx
          clear y0 y1 y2 y3 y4 y5 lty
          replace Kx := Lib.hid ((hE.below.block _ (lt_of_block Kx.out)).trans Kx.out)
          replace Ky := Lib.hid ((hE.below.block _ (lt_of_block Ky.out)).trans Ky.out)
          replace KL := Lib.hid ((hE.below.block _ (lt_of_block KL.out)).trans KL.out)
          replace KT := Lib.hid ((hE.below.block _ (lt_of_block KT.out)).trans KT.out)
          replace HBA := Lib.hid (HBA.out.below hE)
          replace HX := Lib.hid (Ext.trans HX.out hE)
          clear hE
          obtain ⟨x0, x1, x2, x3, x4, x5⟩ := box5z Kx.out
          have ltx := lt_of_block Kx.out
          obtain ⟨y0, y1, y2, y3, y4, y5⟩ := box5z Ky.out
          have lty := lt_of_block Ky.out
          go_wp2_with fail
          refine (CN.out 113 _).mono ?_
          rintro _ w32 ⟨rfl, hE⟩
          replace hE : Ext _ w32 := hE
          clear x0 x1 x2 x3 x4 x5 ltx
          clear y0 y1 y2 y3 y4 y5 lty
          replace Kx := Lib.hid ((hE.below.block _ (lt_of_block Kx.out)).trans Kx.out)
          replace Ky := Lib.hid ((hE.below.block _ (lt_of_block Ky.out)).trans Ky.out)
          replace KL := Lib.hid ((hE.below.block _ (lt_of_block KL.out)).trans KL.out)
          replace KT := Lib.hid ((hE.below.block _ (lt_of_block KT.out)).trans KT.out)
          replace HBA := Lib.hid (HBA.out.below hE)
          replace HX := Lib.hid (Ext.trans HX.out hE)
          clear hE
          obtain ⟨x0, x1, x2, x3, x4, x5⟩ := box5z Kx.out
          have ltx := lt_of_block Kx.out
          obtain ⟨y0, y1, y2, y3, y4, y5⟩ := box5z Ky.out
          have lty := lt_of_block Ky.out
          go_wp2_with fail
          refine (CBPQ.out 14 (by omega) (by omega) _).mono ?_
          rintro _ w33 ⟨q1, d1, rfl, hA1, hE⟩
          replace hE : Ext _ w33 := hE
          clear x0 x1 x2 x3 x4 x5 ltx
          clear y0 y1 y2 y3 y4 y5 lty
          replace Kx := Lib.hid ((hE.below.block _ (lt_of_block Kx.out)).trans Kx.out)
          replace Ky := Lib.hid ((hE.below.block _ (lt_of_block Ky.out)).trans Ky.out)
          replace KL := Lib.hid ((hE.below.block _ (lt_of_block KL.out)).trans KL.out)
          replace KT := Lib.hid ((hE.below.block _ (lt_of_block KT.out)).trans KT.out)
          replace HBA := Lib.hid (HBA.out.below hE)
          replace HX := Lib.hid (Ext.trans HX.out hE)
          have HA1 := Lib.hid hA1
          clear hA1
          clear hE
          obtain ⟨x0, x1, x2, x3, x4, x5⟩ := box5z Kx.out
          have ltx := lt_of_block Kx.out
          obtain ⟨y0, y1, y2, y3, y4, y5⟩ := box5z Ky.out
          have lty := lt_of_block Ky.out
          go_wp2_with fail
          refine (C3.out _ _ _ _ HA1.out).mono ?_
          rintro _ w34 ⟨q2, d2, rfl, hA2, hE⟩
          replace hE : Ext _ w34 := hE
          clear x0 x1 x2 x3 x4 x5 ltx
          clear y0 y1 y2 y3 y4 y5 lty
          replace Kx := Lib.hid ((hE.below.block _ (lt_of_block Kx.out)).trans Kx.out)
          replace Ky := Lib.hid ((hE.below.block _ (lt_of_block Ky.out)).trans Ky.out)
          replace KL := Lib.hid ((hE.below.block _ (lt_of_block KL.out)).trans KL.out)
          replace KT := Lib.hid ((hE.below.block _ (lt_of_block KT.out)).trans KT.out)
          replace HBA := Lib.hid (HBA.out.below hE)
          replace HX := Lib.hid (Ext.trans HX.out hE)
          have HA2 := Lib.hid hA2
          clear hA2
          clear hE
          obtain ⟨x0, x1, x2, x3, x4, x5⟩ := box5z Kx.out
          have ltx := lt_of_block Kx.out
          obtain ⟨y0, y1, y2, y3, y4, y5⟩ := box5z Ky.out
          have lty := lt_of_block Ky.out
          go_wp2_with fail
          refine (DU.out _ _ _ HA2.out HBA.out KL.out).mono ?_
          intro w35 hE
          replace hE : Ext _ w35 := hE
          clear x0 x1 x2 x3 x4 x5 ltx
          clear y0 y1 y2 y3 y4 y5 lty
          replace Kx := Lib.hid ((hE.below.block _ (lt_of_block Kx.out)).trans Kx.out)
          replace Ky := Lib.hid ((hE.below.block _ (lt_of_block Ky.out)).trans Ky.out)
          replace KL := Lib.hid ((hE.below.block _ (lt_of_block KL.out)).trans KL.out)
          replace KT := Lib.hid ((hE.below.block _ (lt_of_block KT.out)).trans KT.out)
          replace HBA := Lib.hid (HBA.out.below hE)
          replace HX := Lib.hid (Ext.trans HX.out hE)
          clear hE
          obtain ⟨x0, x1, x2, x3, x4, x5⟩ := box5z Kx.out
          have ltx := lt_of_block Kx.out
          obtain ⟨y0, y1, y2, y3, y4, y5⟩ := box5z Ky.out
          have lty := lt_of_block Ky.out
          go_wp2_with fail
          refine (CN.out 112 _).mono ?_
          rintro _ w36 ⟨rfl, hE⟩
          replace hE : Ext _ w36 := hE
          clear x0 x1 x2 x3 x4 x5 ltx
          clear y0 y1 y2 y3 y4 y5 lty
          replace Kx := Lib.hid ((hE.below.block _ (lt_of_block Kx.out)).trans Kx.out)
          replace Ky := Lib.hid ((hE.below.block _ (lt_of_block Ky.out)).trans Ky.out)
          replace KL := Lib.hid ((hE.below.block _ (lt_of_block KL.out)).trans KL.out)
          replace KT := Lib.hid ((hE.below.block _ (lt_of_block KT.out)).trans KT.out)
          replace HBA := Lib.hid (HBA.out.below hE)
          replace HX := Lib.hid (Ext.trans HX.out hE)
          clear hE
          obtain ⟨x0, x1, x2, x3, x4, x5⟩ := box5z Kx.out
          have ltx := lt_of_block Kx.out
          obtain ⟨y0, y1, y2, y3, y4, y5⟩ := box5z Ky.out
          have lty := lt_of_block Ky.out
          go_wp2_with fail
          refine (C3n.out 112 _).mono ?_
          rintro _ w37 ⟨q3, d3, rfl, hA3, hE⟩
          replace hE : Ext _ w37 := hE
          clear x0 x1 x2 x3 x4 x5 ltx
          clear y0 y1 y2 y3 y4 y5 lty
          replace Kx := Lib.hid ((hE.below.block _ (lt_of_block Kx.out)).trans Kx.out)
          replace Ky := Lib.hid ((hE.below.block _ (lt_of_block Ky.out)).trans Ky.out)
          replace KL := Lib.hid ((hE.below.block _ (lt_of_block KL.out)).trans KL.out)
          replace KT := Lib.hid ((hE.below.block _ (lt_of_block KT.out)).trans KT.out)
          replace HBA := Lib.hid (HBA.out.below hE)
          replace HX := Lib.hid (Ext.trans HX.out hE)
          have HA3 := Lib.hid hA3
          clear hA3
          clear hE
          obtain ⟨x0, x1, x2, x3, x4, x5⟩ := box5z Kx.out
          have ltx := lt_of_block Kx.out
          obtain ⟨y0, y1, y2, y3, y4, y5⟩ := box5z Ky.out
          have lty := lt_of_block Ky.out
          go_wp2_with fail
          refine (CN.out 113 _).mono ?_
          rintro _ w38 ⟨rfl, hE⟩
          replace hE : Ext _ w38 := hE
          clear x0 x1 x2 x3 x4 x5 ltx
          clear y0 y1 y2 y3 y4 y5 lty
          replace Kx := Lib.hid ((hE.below.block _ (lt_of_block Kx.out)).trans Kx.out)
          replace Ky := Lib.hid ((hE.below.block _ (lt_of_block Ky.out)).trans Ky.out)
          replace KL := Lib.hid ((hE.below.block _ (lt_of_block KL.out)).trans KL.out)
          replace KT := Lib.hid ((hE.below.block _ (lt_of_block KT.out)).trans KT.out)
          replace HBA := Lib.hid (HBA.out.below hE)
          replace HA3 := Lib.hid (HA3.out.below hE)
          replace HX := Lib.hid (Ext.trans HX.out hE)
          clear hE
          obtain ⟨x0, x1, x2, x3, x4, x5⟩ := box5z Kx.out
          have ltx := lt_of_block Kx.out
          obtain ⟨y0, y1, y2, y3, y4, y5⟩ := box5z Ky.out
          have lty := lt_of_block Ky.out
          go_wp2_with fail
          refine (C3n.out 113 _).mono ?_
          rintro _ w39 ⟨q4, d4, rfl, hA4, hE⟩
          replace hE : Ext _ w39 := hE
          clear x0 x1 x2 x3 x4 x5 ltx
          clear y0 y1 y2 y3 y4 y5 lty
          replace Kx := Lib.hid ((hE.below.block _ (lt_of_block Kx.out)).trans Kx.out)
          replace Ky := Lib.hid ((hE.below.block _ (lt_of_block Ky.out)).trans Ky.out)
          replace KL := Lib.hid ((hE.below.block _ (lt_of_block KL.out)).trans KL.out)
          replace KT := Lib.hid ((hE.below.block _ (lt_of_block KT.out)).trans KT.out)
          replace HBA := Lib.hid (HBA.out.below hE)
          replace HA3 := Lib.hid (HA3.out.below hE)
          replace HX := Lib.hid (Ext.trans HX.out hE)
          have HA4 := Lib.hid hA4
          clear hA4
          clear hE
          obtain ⟨x0, x1, x2, x3, x4, x5⟩ := box5z Kx.out
          have ltx := lt_of_block Kx.out
          obtain ⟨y0, y1, y2, y3, y4, y5⟩ := box5z Ky.out
          have lty := lt_of_block Ky.out
          go_wp2_with fail
          refine (CBV.out _ _ _ _ _ HA3.out HA4.out).mono ?_
          rintro _ w40 ⟨q5, d5, rfl, hA5, hE⟩
          replace hE : Ext _ w40 := hE
          clear x0 x1 x2 x3 x4 x5 ltx
          clear y0 y1 y2 y3 y4 y5 lty
          replace Kx := Lib.hid ((hE.below.block _ (lt_of_block Kx.out)).trans Kx.out)
          replace Ky := Lib.hid ((hE.below.block _ (lt_of_block Ky.out)).trans Ky.out)
          replace KL := Lib.hid ((hE.below.block _ (lt_of_block KL.out)).trans KL.out)
          replace KT := Lib.hid ((hE.below.block _ (lt_of_block KT.out)).trans KT.out)
          replace HBA := Lib.hid (HBA.out.below hE)
          replace HA3 := Lib.hid (HA3.out.below hE)
          replace HX := Lib.hid (Ext.trans HX.out hE)
          have HA5 := Lib.hid hA5
          clear hA5
          clear hE
          obtain ⟨x0, x1, x2, x3, x4, x5⟩ := box5z Kx.out
          have ltx := lt_of_block Kx.out
          obtain ⟨y0, y1, y2, y3, y4, y5⟩ := box5z Ky.out
          have lty := lt_of_block Ky.out
          go_wp2_with fail
          refine (DV.out _ _ _ HA5.out HBA.out KL.out).mono ?_
          intro w41 hE
          replace hE : Ext _ w41 := hE
          clear x0 x1 x2 x3 x4 x5 ltx
          clear y0 y1 y2 y3 y4 y5 lty
          replace Kx := Lib.hid ((hE.below.block _ (lt_of_block Kx.out)).trans Kx.out)
          replace Ky := Lib.hid ((hE.below.block _ (lt_of_block Ky.out)).trans Ky.out)
          replace KL := Lib.hid ((hE.below.block _ (lt_of_block KL.out)).trans KL.out)
          replace KT := Lib.hid ((hE.below.block _ (lt_of_block KT.out)).trans KT.out)
          replace HBA := Lib.hid (HBA.out.below hE)
          replace HA3 := Lib.hid (HA3.out.below hE)
          replace HX := Lib.hid (Ext.trans HX.out hE)
          clear hE
          obtain ⟨x0, x1, x2, x3, x4, x5⟩ := box5z Kx.out
          have ltx := lt_of_block Kx.out
          obtain ⟨y0, y1, y2, y3, y4, y5⟩ := box5z Ky.out
          have lty := lt_of_block Ky.out
          go_wp2_with fail
          refine (CN.out 112 _).mono ?_
          rintro _ w42 ⟨rfl, hE⟩
          replace hE : Ext _ w42 := hE
          clear x0 x1 x2 x3 x4 x5 ltx
          clear y0 y1 y2 y3 y4 y5 lty
          replace Kx := Lib.hid ((hE.below.block _ (lt_of_block Kx.out)).trans Kx.out)
          replace Ky := Lib.hid ((hE.below.block _ (lt_of_block Ky.out)).trans Ky.out)
          replace KL := Lib.hid ((hE.below.block _ (lt_of_block KL.out)).trans KL.out)
          replace KT := Lib.hid ((hE.below.block _ (lt_of_block KT.out)).trans KT.out)
          replace HBA := Lib.hid (HBA.out.below hE)
          replace HA3 := Lib.hid (HA3.out.below hE)
          replace HX := Lib.hid (Ext.trans HX.out hE)
          clear hE
          obtain ⟨x0, x1, x2, x3, x4, x5⟩ := box5z Kx.out
          have ltx := lt_of_block Kx.out
          obtain ⟨y0, y1, y2, y3, y4, y5⟩ := box5z Ky.out
          have lty := lt_of_block Ky.out
          go_wp2_with fail
          refine (CN.out 113 _).mono ?_
          rintro _ w43 ⟨rfl, hE⟩
          replace hE : Ext _ w43 := hE
          clear x0 x1 x2 x3 x4 x5 ltx
          clear y0 y1 y2 y3 y4 y5 lty
          replace Kx := Lib.hid ((hE.below.block _ (lt_of_block Kx.out)).trans Kx.out)
          replace Ky := Lib.hid ((hE.below.block _ (lt_of_block Ky.out)).trans Ky.out)
          replace KL := Lib.hid ((hE.below.block _ (lt_of_block KL.out)).trans KL.out)
          replace KT := Lib.hid ((hE.below.block _ (lt_of_block KT.out)).trans KT.out)
          replace HBA := Lib.hid (HBA.out.below hE)
          replace HA3 := Lib.hid (HA3.out.below hE)
          replace HX := Lib.hid (Ext.trans HX.out hE)
          clear hE
          obtain ⟨x0, x1, x2, x3, x4, x5⟩ := box5z Kx.out
          have ltx := lt_of_block Kx.out
          obtain ⟨y0, y1, y2, y3, y4, y5⟩ := box5z Ky.out
          have lty := lt_of_block Ky.out
          go_wp2_with fail
          refine (CBPQ.out 15 (by omega) (by omega) _).mono ?_
          rintro _ w44 ⟨q6, d6, rfl, hA6, hE⟩
          replace hE : Ext _ w44 := hE
          clear x0 x1 x2 x3 x4 x5 ltx
          clear y0 y1 y2 y3 y4 y5 lty
          replace Kx := Lib.hid ((hE.below.block _ (lt_of_block Kx.out)).trans Kx.out)
          replace Ky := Lib.hid ((hE.below.block _ (lt_of_block Ky.out)).trans Ky.out)
          replace KL := Lib.hid ((hE.below.block _ (lt_of_block KL.out)).trans KL.out)
          replace KT := Lib.hid ((hE.below.block _ (lt_of_block KT.out)).trans KT.out)
          replace HBA := Lib.hid (HBA.out.below hE)
          replace HA3 := Lib.hid (HA3.out.below hE)
          replace HX := Lib.hid (Ext.trans HX.out hE)
          have HA6 := Lib.hid hA6
          clear hA6
          clear hE
          obtain ⟨x0, x1, x2, x3, x4, x5⟩ := box5z Kx.out
          have ltx := lt_of_block Kx.out
          obtain ⟨y0, y1, y2, y3, y4, y5⟩ := box5z Ky.out
          have lty := lt_of_block Ky.out
          go_wp2_with fail
          refine (DW.out _ _ _ HA6.out HBA.out KL.out).mono ?_
          intro w45 hE
          replace hE : Ext _ w45 := hE
          clear x0 x1 x2 x3 x4 x5 ltx
          clear y0 y1 y2 y3 y4 y5 lty
          replace Kx := Lib.hid ((hE.below.block _ (lt_of_block Kx.out)).trans Kx.out)
          replace Ky := Lib.hid ((hE.below.block _ (lt_of_block Ky.out)).trans Ky.out)
          replace KL := Lib.hid ((hE.below.block _ (lt_of_block KL.out)).trans KL.out)
          replace KT := Lib.hid ((hE.below.block _ (lt_of_block KT.out)).trans KT.out)
          replace HBA := Lib.hid (HBA.out.below hE)
          replace HA3 := Lib.hid (HA3.out.below hE)
          replace HX := Lib.hid (Ext.trans HX.out hE)
          clear hE
          obtain ⟨x0, x1, x2, x3, x4, x5⟩ := box5z Kx.out
          have ltx := lt_of_block Kx.out
          obtain ⟨y0, y1, y2, y3, y4, y5⟩ := box5z Ky.out
          have lty := lt_of_block Ky.out
          clear x0 x1 x2 x3 x4 x5 ltx
          clear y0 y1 y2 y3 y4 y5 lty
          clear HA3
          cases p with
          | true =>
            cases q with
            | true =>
              go_wp2_with fail
              refine (C1.out false _).mono ?_
              rintro _ _ ⟨rfl, rfl⟩
              go_wp2_with fail
              refine (C1.out true _).mono ?_
              rintro _ _ ⟨rfl, rfl⟩
              go_wp2_with fail
              refine (CA.out _).mono ?_
              intro wz hE
              have HZ := Lib.hid (Ext.trans HX.out hE)
              clear hE
              go_wp2
              go_ret
              exact ⟨rfl, HZ.out⟩
            | false =>
              go_wp2_with fail
              refine (C1.out true _).mono ?_
              rintro _ _ ⟨rfl, rfl⟩
              go_wp2_with fail
              refine (C1.out true _).mono ?_
              rintro _ _ ⟨rfl, rfl⟩
              go_wp2_with fail
              refine (CA.out _).mono ?_
              intro wz hE
              have HZ := Lib.hid (Ext.trans HX.out hE)
              clear hE
              go_wp2
              go_ret
              exact ⟨rfl, HZ.out⟩
          | false =>
            cases q with
            | true =>
              go_wp2_with fail
              refine (C1.out true _).mono ?_
              rintro _ _ ⟨rfl, rfl⟩
              go_wp2_with fail
              refine (C1.out true _).mono ?_
              rintro _ _ ⟨rfl, rfl⟩
              go_wp2_with fail
              refine (CA.out _).mono ?_
              intro wz hE
              have HZ := Lib.hid (Ext.trans HX.out hE)
              clear hE
              go_wp2
              go_ret
              exact ⟨rfl, HZ.out⟩
            | false =>
              go_wp2_with fail
              refine (C1.out true _).mono ?_
              rintro _ _ ⟨rfl, rfl⟩
              go_wp2_with fail
              refine (C1.out false _).mono ?_
              rintro _ _ ⟨rfl, rfl⟩
              go_wp2_with fail
              refine (CA.out _).mono ?_
              intro wz hE
              have HZ := Lib.hid (Ext.trans HX.out hE)
              clear hE
              go_wp2
              go_ret
              exact ⟨rfl, HZ.out⟩

theorem exprArithmetic_walk (a b : Int) (p q : Bool) (w : World) (ha : (Lit.int .i64 a).wf = true) (hb : (Lit.int .i64 b).wf = true) :
    Gives Tryd.prog 5 #[.int .i64 a, .int .i64 b, .bool p, .bool q] w (.bool true) := by
  by_cases h : inM a ∧ inM b
  · exact exprArith_in a b p q w h.1 h.2
  · exact exprArith_out a b p q w h

end Go.Proofs.YtgkalcboklhdgaaDoor

namespace Go.Proofs.YtgkalcboklhdgaaDoor.exprArithmetic
open Go.ChangeShapes Go.WideShapes Go.ChangeAt Go.RowKit
open Go.ChangeMaps (open_string shut_string)
set_option linter.unusedVariables false

theorem own : ownKnob Tryd.prog.godebug = none := by kernel_rfl
theorem laidOut : laidOutB Tryd.prog = true := by kernel_rfl
/-- the cells of a datum of plain values -/
def flat : Nat → DataW Unit → List Value
  | _, .lit l => [l.value]
  | n + 1, .agg ps => ps.flatMap (flat n)
  | _, _ => []
/-- a world for the witness: the settled one, the listed tables holding what the text lays -/
def lay (d : DataW Unit) : Obj → Obj
  | .cells _ t frozen => .cells (flat 4 d).toArray t frozen
  | o => o
noncomputable def laidWorld (os : Os) : World :=
  { World.holding Tryd.prog os ⟨#[], #[], []⟩ with heap := ((((World.holding Tryd.prog os ⟨#[], #[], []⟩).heap.modify 1 (lay Rows.laid_math_bits_deBruijn32tab)).modify 2 (lay Rows.laid_math_bits_deBruijn64tab)).modify 0 (lay Rows.laid_internal_strconv_uint64pow10)) }
theorem laid_met (os : Os) : laidMet Tryd.prog Rows.exprArithmeticRow.laid ((laidWorld os).forCall (fun _ _ => 0) ⟨#[], #[.int .i64 0, .int .i64 0, .bool false, .bool false], []⟩).memory :=
  laidMet_of_run' 8 (by kernel_rfl) (by kernel_rfl)
theorem reads (os : Os) {H : Type} (enc : TypeId × Value → H) : ∃ places, DataW.whole enc Tryd.prog ((laidWorld os).forCall (fun _ _ => 0) ⟨#[], #[.int .i64 0, .int .i64 0, .bool false, .bool false], []⟩).memory Tryd.f5.params.toList Rows.exprArithmeticSpec.vars false (#[.int .i64 0, .int .i64 0, .bool false, .bool false] : Array Value).toList 8 = some ([.lit (.int .i64 0), .lit (.int .i64 0), .lit (.bool false), .lit (.bool false)], [], places) :=
  ⟨[], by kernel_rfl⟩
set_option maxRecDepth 100000 in
theorem contract (H : Type) (enc : TypeId × Value → H) (W : World) (base : Nat) (args : Array Value) (ds gs : List (DataW H)) (before : List MemPlace)
    (hval0 : ∀ (j : Nat) t v, Tryd.f5.params[j]? = some t → args[j]? = some v → Value.okWide Tryd.prog W .any base t v)
    (hW : DataW.Whole enc Tryd.prog Tryd.f5.params.toList Rows.exprArithmeticSpec.vars false W args.toList ds gs before) (hz : (DataW.weightsEach Tryd.prog (Tryd.f5.params.toList ++ (OpenSpec.ofChange Rows.exprArithmeticSpec).bare.plain.varTypes Tryd.prog) (ds ++ gs)).all (· ≤ reachBytes) = true) :
    Calls Tryd.prog 5 args W fun e W' => ∃ v, e = .returned v ∧ Rows.exprArithmeticSpec.post enc Tryd.prog Tryd.f5 false true false false W args v W' := by
  have hval := hval0
  have hW' := hW
  obtain ⟨p, q, hA0, hV, rfl, hfz, hnd⟩ := hW
  have hA : DataW.TrodAll enc Tryd.prog W 0 (fun _ => true) true Tryd.f5.params.toList args.toList ds p := hA0
  rw [Tryd.params5] at hA hval
  obtain ⟨v0, vs0, d0, ds0, p0, q0, hargs, rfl, rfl, h0, r0⟩ := trodAll_cons hA
  obtain ⟨v1, vs1, d1, ds1, p1, q1, rfl, rfl, rfl, h1, r1⟩ := trodAll_cons r0
  obtain ⟨v2, vs2, d2, ds2, p2, q2, rfl, rfl, rfl, h2, r2⟩ := trodAll_cons r1
  obtain ⟨v3, vs3, d3, ds3, p3, q3, rfl, rfl, rfl, h3, r3⟩ := trodAll_cons r2
  obtain ⟨rfl, rfl, rfl⟩ := trodAll_nil r3
  obtain rfl : args = #[v0, v1, v2, v3] := by cases args; simp_all
  obtain ⟨rfl, rfl⟩ := trodVars_none hV
  obtain ⟨a0, rfl, rfl, rfl, w0⟩ := open_int Tryd.underlying3 (hval 0 3 v0 rfl rfl) h0
  obtain ⟨a1, rfl, rfl, rfl, w1⟩ := open_int Tryd.underlying3 (hval 1 3 v1 rfl rfl) h1
  obtain ⟨a2, rfl, rfl, rfl⟩ := open_bool Tryd.underlying4 (hval 2 4 v2 rfl rfl) h2
  obtain ⟨a3, rfl, rfl, rfl⟩ := open_bool Tryd.underlying4 (hval 3 4 v3 rfl rfl) h3
  clear hA0 hval0 hz
  simp only [List.append_nil] at hW'
  refine (exprArithmetic_walk a0 a1 a2 a3 W w0 w1).mono fun W' bel => ?_
  exact ⟨_, rfl, _, _, _, [], [], [], hW', trodAll_mk1 (shut_bool Tryd.underlying4 _), (trodAll_cons_mk (shut_int Tryd.underlying3 w0) (trodAll_cons_mk (shut_int Tryd.underlying3 w1) (trodAll_cons_mk (shut_bool Tryd.underlying4 _) (trodAll_cons_mk (shut_bool Tryd.underlying4 _) trodAll_mk0)))), rfl, bel.frame _, fun h => by cases h⟩

set_option maxRecDepth 100000 in
theorem lifted (os : Os) (started : os.Started) (H : Type) (enc : TypeId × Value → H) (F : Stop.Interp) :
    ReturnsInHanded {} Tryd.checked os 5 .any ((OpenSpec.ofChange Rows.exprArithmeticSpec).preRow enc Tryd.prog Tryd.f5 Rows.exprArithmeticRow.domain false Rows.exprArithmeticRow.laid) (((OpenSpec.ofChange Rows.exprArithmeticSpec).at F).post enc Tryd.prog Tryd.f5 false true false false) := by
  obtain ⟨places, hx⟩ := reads os enc
  refine returnsInHanded_of_row (C := Tryd.checked) (s := OpenSpec.ofChange Rows.exprArithmeticSpec) own started (by kernel_rfl) Tryd.func5
    (witness_row_at (enc := enc) (C := Tryd.checked) false (laidWorld os) #[.int .i64 0, .int .i64 0, .bool false, .bool false] rfl (by kernel_rfl) (by kernel_rfl) (by kernel_rfl)
      (OpenSpec.preRow_of_cond 8 hx (by kernel_rfl) (fun k hk => by cases hk) (by kernel_rfl) (laid_met os))) ?_
  intro W base args ds gs before hval hW _ _ hz _ hsh _
  exact contract H enc W base args ds gs before hval hW hz

theorem said : Rows.ExprArithmeticSaid :=
  OpenClaim.holds_of_cond 5 Tryd.f5 rfl rfl rfl rfl rfl rfl rfl ⟨rfl, rfl, rfl, rfl, rfl⟩ rfl rfl rfl rfl rfl (by kernel_rfl) Tryd.func5 (by kernel_rfl)
    (of_decide_eq_true (by kernel_rfl)) (by unfold Func.isWrapper; first | (rw [if_pos (by decide +kernel)]; kernel_rfl) | (rw [if_neg (by decide +kernel)]; exact ⟨rfl, rfl⟩))
    (fun os started H enc _ F => by rw [OpenClaim.pre_eq_preRow]; exact lifted os started H enc F)

theorem plain (f : FuncId) (fn : Func) (hf : Tryd.pinned.checked.prog.funcNamed "nursery/nurserylaw09.ExprArithmetic" = some f) (hfn : Tryd.pinned.checked.prog.funcs[f]? = some fn) :
    false = Tryd.pinned.checked.prog.looks [] ∧ ∀ (j : Nat) t, fn.params[j]? = some t → Tryd.pinned.checked.prog.wantsStandIn t = false := by
  obtain rfl : f = 5 := Option.some.inj ((show Tryd.prog.funcNamed "nursery/nurserylaw09.ExprArithmetic" = some 5 by kernel_rfl).symm.trans hf) |>.symm
  obtain rfl : fn = Tryd.f5 := (Option.some.inj (Tryd.func5.symm.trans hfn)).symm
  refine ⟨by kernel_rfl, fun j t ht => ?_⟩
  rw [Tryd.params5] at ht
  rcases j with _ | _ | _ | _ | j
  · obtain rfl : t = 3 := by simpa using ht.symm
    exact (show Tryd.prog.wantsStandIn 3 = false by kernel_rfl)
  · obtain rfl : t = 3 := by simpa using ht.symm
    exact (show Tryd.prog.wantsStandIn 3 = false by kernel_rfl)
  · obtain rfl : t = 4 := by simpa using ht.symm
    exact (show Tryd.prog.wantsStandIn 4 = false by kernel_rfl)
  · obtain rfl : t = 4 := by simpa using ht.symm
    exact (show Tryd.prog.wantsStandIn 4 = false by kernel_rfl)
  · simp at ht

/-- the statement -/
theorem proved : Rows.ExprArithmeticCardSaid :=
  Claim7.holds_tied_plain_at .later [] _ _ _ _ said (fun _ h => by cases h) (by kernel_rfl) (fun _ h => by cases h) exprArithmetic_row_tie rfl ⟨rfl, rfl⟩ (by kernel_rfl) rfl plain (by kernel_rfl)
#print axioms proved
end Go.Proofs.YtgkalcboklhdgaaDoor.exprArithmetic

