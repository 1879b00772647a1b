/- The statement ExprTypesCardSaid: for every input the law returns true, and the arguments read as before; the tables of the library that it lists are tied to the text. The frame round the walk of the law. (With it: Plain: other values of the names do not change the type; errors of evaluation. Bindings of the call's own, stored to.; ExprTypes: the walk.) -/
import Derived.Test.YtgkalcboklhdgaaDoorCards
import Derived.Test.YtgkalcboklhdgaaDoorTie
import Derived.WalkKit
import Derived.ProofKit
import Derived.OpenShut
import Derived.ShutString
import Derived.ChangeOld
import Derived.Below
import Derived.Deep.DeepHandedRow
import Derived.Lib.LaidTab
import Derived.Shelf.Vars
import Derived.Test.YtgkalcboklhdgaaDoorPart5
import Derived.Test.YtgkalcboklhdgaaDoorPart8

namespace Go.Proofs.YtgkalcboklhdgaaDoor
open Go.RowKit
set_option linter.unusedVariables false
set_option linter.unusedSimpArgs false
open Ex

/-- a binding with another value -/
def chB (b : Bn) : Bn := { b with value := if b.type = 1 then 7 else 1 - b.value }
theorem isN_ch (n : List UInt8) : isN n ∘ chB = isN n := rfl
theorem fdIs_ch (bs : List Bn) (n : List UInt8) : fdIs (bs.map chB) n = fdIs bs n := by
  unfold fdIs
  rw [List.find?_map, isN_ch]; simp
theorem fdB_ch (bs : List Bn) (n : List UInt8) : (fdB (bs.map chB) n).type = (fdB bs n).type := by
  unfold fdB
  rw [List.find?_map, isN_ch]
  cases bs.find? (isN n) <;> rfl
theorem tyN_ch (bs : List Bn) (k o : Int) (n : List UInt8) (l : List Int) : tyN (bs.map chB) k o n l = tyN bs k o n l := by
  unfold tyN
  rw [fdIs_ch, fdB_ch]
mutual
theorem ty_ch (bs : List Bn) : ∀ e : Ex, e.ty (bs.map chB) = e.ty bs
  | .mk k o n v ts => by simp only [Ex.ty]; rw [tys_ch bs ts, tyN_ch]
theorem tys_ch (bs : List Bn) : ∀ ts : List Ex, Ex.tys (bs.map chB) ts = Ex.tys bs ts
  | [] => rfl
  | t :: ts => by simp only [Ex.tys]; rw [ty_ch bs t, tys_ch bs ts]
end
theorem ok_ch {prev : Option (List UInt8)} {b : Bn} (h : b.ok prev = true) : (chB b).ok prev = true := by
  unfold Bn.ok chB at *
  simp only [Bool.and_eq_true] at h ⊢
  refine ⟨h.1, ?_⟩
  have h2 := h.2
  by_cases ht : b.type = 2
  · rw [if_pos ht] at h2 ⊢
    have := of_decide_eq_true h2
    rw [if_neg (by omega)]
    apply decide_eq_true; omega
  · have h1 := of_decide_eq_true h.1.2
    rw [if_neg ht, if_pos (by omega)]
    apply decide_eq_true
    unfold inM
    exact ⟨by omega, by omega⟩
theorem bnsOk_ch : ∀ (bs : List Bn) (prev : Option (List UInt8)), bnsOk prev bs = true → bnsOk prev (bs.map chB) = true
  | [], _, _ => rfl
  | b :: bs, prev, h => by
    simp only [bnsOk, List.map_cons, Bool.and_eq_true] at h ⊢
    exact ⟨ok_ch h.1, bnsOk_ch bs _ h.2⟩
theorem bnds_ch {bs : List Bn} (h : bnds bs = true) : bnds (bs.map chB) = true := by
  unfold bnds at *
  simp only [Bool.and_eq_true, List.length_map] at h ⊢
  exact ⟨bnsOk_ch bs _ h.1, h.2⟩
theorem tyR_ch {bs : List Bn} (h : bnds bs = true) (e : Ex) : tyR (bs.map chB) e = tyR bs e := by
  unfold tyR
  rw [bnds_ch h, h, ty_ch]
theorem opE_err2 (k x y : Int) (h : (opE k x y).2 ≠ 0) : (opE k x y).1 = 0 ∧ ((opE k x y).2 = 24 ∨ (opE k x y).2 = 14) := by
  unfold opE at h ⊢
  by_cases h1 : (opR k x y).2 = 0
  · rw [if_neg (by simp [h1])] at h ⊢
    by_cases h2 : inM (opR k x y).1
    · rw [if_pos h2] at h; exact absurd rfl h
    · rw [if_neg h2]; exact ⟨rfl, .inr rfl⟩
  · rw [if_pos h1]
    refine ⟨rfl, ?_⟩
    show (opR k x y).2 = 24 ∨ (opR k x y).2 = 14
    unfold opR at h1 ⊢
    by_cases a3 : k = 3
    · rw [if_pos a3] at h1; exact absurd rfl h1
    · rw [if_neg a3] at h1 ⊢
      by_cases a4 : k = 4
      · rw [if_pos a4] at h1; exact absurd rfl h1
      · rw [if_neg a4] at h1 ⊢
        by_cases a5 : k = 5
        · rw [if_pos a5] at h1 ⊢
          cases hm : mulBig x y <;> simp [hm] at h1 ⊢
        · rw [if_neg a5] at h1 ⊢
          by_cases a6 : k = 6
          · rw [if_pos a6] at h1 ⊢
            by_cases hy : y = 0 <;> simp [hy] at h1 ⊢
          · rw [if_neg a6] at h1 ⊢
            by_cases a7 : k = 7
            · rw [if_pos a7] at h1 ⊢
              by_cases hy : y = 0 <;> simp [hy] at h1 ⊢
            · rw [if_neg a7] at h1
              exact absurd rfl h1
theorem evN_err2 (bs : List Bn) (k o : Int) (n : List UInt8) (v : Int) (l : List Int) (h : (evN bs k o n v l).2 ≠ 0) : (evN bs k o n v l).1 = 0 ∧ ((evN bs k o n v l).2 = 24 ∨ (evN bs k o n v l).2 = 14) := by
  unfold evN at h ⊢
  by_cases h1 : k = 1
  · rw [if_pos h1] at h; exact absurd rfl h
  · rw [if_neg h1] at h ⊢
    by_cases h2 : k = 2
    · rw [if_pos h2] at h; exact absurd rfl h
    · rw [if_neg h2] at h ⊢
      by_cases h3 : k = 3
      · rw [if_pos h3] at h; exact absurd rfl h
      · rw [if_neg h3] at h ⊢
        exact opE_err2 _ _ _ h
mutual
theorem ev_err2 (bs : List Bn) : ∀ e : Ex, (e.ev bs).2 ≠ 0 → (e.ev bs).1 = 0 ∧ ((e.ev bs).2 = 24 ∨ (e.ev bs).2 = 14)
  | .mk k o n v ts, h => by
    simp only [Ex.ev] at h ⊢
    by_cases h1 : (Ex.evs bs ts).1 = 0
    · rw [if_neg (by simp [h1])] at h ⊢; exact evN_err2 _ _ _ _ _ _ h
    · rw [if_pos h1]; exact ⟨rfl, evs_err2 bs ts h1⟩
theorem evs_err2 (bs : List Bn) : ∀ ts : List Ex, (Ex.evs bs ts).1 ≠ 0 → (Ex.evs bs ts).1 = 24 ∨ (Ex.evs bs ts).1 = 14
  | [], h => absurd rfl h
  | t :: ts, h => by
    simp only [Ex.evs] at h ⊢
    by_cases h1 : (t.ev bs).2 = 0
    · rw [if_neg (by simp [h1])] at h ⊢; exact evs_err2 bs ts h
    · rw [if_pos h1]; exact (ev_err2 bs t h1).2
end
mutual
theorem ty_err2 (bs : List Bn) : ∀ e : Ex, (e.ty bs).2 ≠ 0 → (e.ty bs).1 = 0
  | .mk k o n v ts, h => by
    simp only [Ex.ty] at h ⊢
    by_cases h1 : (Ex.tys bs ts).1 = 0
    · rw [if_neg (by simp [h1])] at h ⊢
      unfold tyN at h ⊢
      by_cases k1 : k = 1
      · rw [if_pos k1] at h; exact absurd rfl h
      · rw [if_neg k1] at h ⊢
        by_cases k2 : k = 2
        · rw [if_pos k2] at h ⊢
          cases hf : fdIs bs n <;> simp [hf] at h ⊢
        · rw [if_neg k2] at h ⊢
          by_cases k3 : k = 3
          · rw [if_pos k3] at h ⊢
            by_cases hh : (Ex.tys bs ts).2.getD 0 0 = (if o = 2 then 2 else 1)
            · rw [if_pos hh] at h; exact absurd rfl h
            · rw [if_neg hh]
          · rw [if_neg k3] at h ⊢
            by_cases hh : (Ex.tys bs ts).2.getD 0 0 = (Ex.tys bs ts).2.getD 1 0 ∧ ((opOf o).arg = 0 ∨ (Ex.tys bs ts).2.getD 0 0 = (opOf o).arg)
            · rw [if_pos hh] at h; exact absurd rfl h
            · rw [if_neg hh]
    · rw [if_pos h1]
end
theorem bnsOk_val : ∀ (bs : List Bn) (prev : Option (List UInt8)), bnsOk prev bs = true → ∀ a ∈ bs, inM a.value
  | [], _, _, a, ha => by cases ha
  | b :: bs, prev, h, a, ha => by
    simp only [bnsOk, Bool.and_eq_true] at h
    rcases List.mem_cons.1 ha with rfl | ha
    · have h1 := h.1
      unfold Bn.ok at h1
      simp only [Bool.and_eq_true] at h1
      have h2 := h1.2
      by_cases ht : a.type = 2
      · rw [if_pos ht] at h2
        have := of_decide_eq_true h2
        unfold inM; omega
      · rw [if_neg ht] at h2
        exact of_decide_eq_true h2
    · exact bnsOk_val bs _ h.2 a ha
theorem bnds_val {bs : List Bn} (hb : bnds bs = true) {a : Bn} (ha : a ∈ bs) : inM a.value := by
  unfold bnds at hb
  simp only [Bool.and_eq_true] at hb
  exact bnsOk_val bs _ hb.1 a ha
/-- what the law asks of types and values -/
theorem types_law {bs : List Bn} (hb : bnds bs = true) (e : Ex) : ((tyR bs e).2 ≠ 0 → (tyR bs e).1 = 0 ∧ evR bs e = (0, (tyR bs e).2)) ∧
    ((tyR bs e).2 = 0 → (evR bs e).2 ≠ 0 → (evR bs e).1 = 0 ∧ ((evR bs e).2 = 24 ∨ (evR bs e).2 = 14)) ∧
    ((tyR bs e).2 = 0 → (evR bs e).2 = 0 → ((tyR bs e).1 = 1 ∧ inM (evR bs e).1) ∨ ((tyR bs e).1 = 2 ∧ ((evR bs e).1 = 0 ∨ (evR bs e).1 = 1))) := by
  refine ⟨fun h => ⟨?_, by unfold evR; rw [if_pos h]⟩, fun h h2 => ?_, fun h h2 => ?_⟩
  · unfold tyR at h ⊢
    by_cases h1 : e.chk = 0
    · rw [if_neg (by simp [h1])] at h ⊢
      rw [if_pos hb] at h ⊢
      exact ty_err2 bs e h
    · rw [if_pos h1]
  · unfold evR at h2 ⊢
    rw [if_neg (by simp [h])] at h2 ⊢
    exact ev_err2 bs e h2
  · have hz := tyR_zero h
    have hev : evR bs e = e.ev bs := by unfold evR; rw [if_neg (by simp [h])]
    rw [hev] at h2 ⊢
    have hty : e.ty bs = ((tyR bs e).1, 0) := by rw [← hz.2.2]; exact Prod.ext rfl h
    obtain ⟨h3, h4⟩ := ev_sound hb e.size e (Nat.le_refl _) (chk_zero hz.1).2.2 _ hty
    obtain ⟨h5, h6⟩ := h4 (e.ev bs).1 (Prod.ext rfl h2)
    rcases h3 with h3 | h3
    · exact .inl ⟨h3, h5⟩
    · exact .inr ⟨h3, h6 h3⟩

/-- the bindings, of which the first j have other values -/
def upB (bs : List Bn) (j : Nat) : List Bn := (bs.take j).map chB ++ bs.drop j
theorem upB_zero (bs : List Bn) : upB bs 0 = bs := by simp [upB]
theorem upB_len (bs : List Bn) (j : Nat) : (upB bs j).length = bs.length := by simp [upB]; omega
theorem upB_end (bs : List Bn) (j : Nat) (h : ¬ j < bs.length) : upB bs j = bs.map chB := by
  unfold upB; rw [List.take_of_length_le (by omega), List.drop_eq_nil_of_le (by omega)]; simp
theorem upB_get (bs : List Bn) (j : Nat) (h : j < bs.length) : (upB bs j)[j]'(by rw [upB_len]; exact h) = bs[j] := by
  unfold upB
  rw [List.getElem_append_right (by simp; omega)]
  simp [show min j bs.length = j by omega]
theorem upB_succ (bs : List Bn) (j : Nat) (h : j < bs.length) : upB bs (j + 1) = (upB bs j).set j (chB bs[j]) := by
  unfold upB
  have hl : ((bs.take j).map chB).length = j := by simp; omega
  rw [List.take_succ_eq_append_getElem h, List.map_append, List.append_assoc, List.drop_eq_getElem_cons h, List.set_append_right _ _ (by omega), hl]
  simp
  rw [List.drop_eq_getElem_cons h]; rfl
theorem rowB_set (rs : List Bn) (j : Nat) (h : j < rs.length) (x : Int) : (rowB rs).set (j * 3 + 2) (.int .i64 x) = rowB (rs.set j { rs[j] with value := x }) := by
  induction rs generalizing j with
  | nil => simp at h
  | cons r rs ih =>
    cases j with
    | zero => simp [rowB, bc]
    | succ j =>
      have h' : j < rs.length := by simpa using h
      have e : (j + 1) * 3 + 2 = (bc r).length + (j * 3 + 2) := by simp [bc]; omega
      have h2 := ih j h'
      simp only [rowB] at h2
      simp only [rowB, List.flatMap_cons, List.set_cons_succ, List.getElem_cons_succ]
      rw [e, ← h2, List.set_append_right _ _ (by omega)]
      congr 2; omega
/-- slices.Clone of bindings: a row of the call's own -/
theorem CloneB_own (bs : List Bn) (p : Option Addr) (c : Nat) (w : World) (hA : BAt w p bs) :
    Calls Tryd.prog 16 #[.slice p bs.length c] w fun e w' => ∃ q d g, e = .returned (.slice q bs.length d) ∧ Ext w w' ∧ (bs.length ≠ 0 → q = some ⟨g, 0, none⟩ ∧ w'.ownsRow w.heap.size 36 3 (.slice (some ⟨g, 0, none⟩) bs.length d) bs.length (rowB bs)) := by
  cases p with
  | none =>
    have h0 : bs = [] := by
      cases bs with
      | nil => rfl
      | cons x bs => obtain ⟨b, o, e, _⟩ := hA.2 0 (by simp); cases e
    subst h0
    exact (CloneB_none c w).mono (fun e w' ⟨h3, h4⟩ => ⟨none, 0, 0, h3, by rw [← h4]; exact Below.refl _ _, fun h => absurd rfl h⟩)
  | some a =>
    refine (CloneB_some bs a c w hA.1.1 ?_).mono ?_
    · by_cases h0 : bs = []
      · subst h0; intro j u hu; simp [rowB] at hu
      · obtain ⟨b, o, e, _⟩ := hA.2 0 (List.length_pos_iff.2 h0)
        cases e
        refine rowB_at (fun j hj => ?_)
        obtain ⟨b', o', e, h3⟩ := hA.2 j hj
        cases e
        exact h3
    · rintro e w' ⟨v, rfl, hown, hE⟩
      rcases Go.Joins.ownsRow_forms hown with ⟨rfl, h2⟩ | ⟨g, cap, rfl⟩
      · exact ⟨none, 0, 0, by rw [h2], hE, fun h => absurd h2 h⟩
      · exact ⟨_, _, g, rfl, hE, fun _ => ⟨rfl, hown⟩⟩
theorem ownsB_at {w : World} {B g n d : Nat} {rs : List Bn} (hown : w.ownsRow B 36 3 (.slice (some ⟨g, 0, none⟩) n d) n (rowB rs)) (hn : rs.length = n) (hf : rs.length ≤ 4398046510976 ∧ ∀ b ∈ rs, b.fits) : BAt w (some ⟨g, 0, none⟩) rs := by
  refine ⟨hf, fun j hj => ⟨g, 0, rfl, ?_⟩⟩
  have hc : ∀ i, i < 3 → w.cell? ⟨g, 0 + j * 3 + i, none⟩ = (bc rs[j])[i]? := fun i hi => by
    rw [Nat.zero_add, World.ownsRow.cellAt hown (j * 3 + i) (by omega), rowB_get rs j i hj hi]
  exact ⟨hc 0 (by omega), hc 1 (by omega), hc 2 (by omega)⟩
theorem fits_ch {bs : List Bn} (hb : bnds bs = true) (hf : bs.length ≤ 4398046510976 ∧ ∀ b ∈ bs, b.fits) : (bs.map chB).length ≤ 4398046510976 ∧ ∀ b ∈ bs.map chB, b.fits := by
  refine ⟨by simpa using hf.1, fun b hbm => ?_⟩
  obtain ⟨a, ha, rfl⟩ := List.mem_map.1 hbm
  obtain ⟨h1, h2, h3⟩ := hf.2 a ha
  refine ⟨h1, h2, ?_⟩
  have hok := bnds_val hb ha
  unfold Ex.wf chB
  unfold inM at hok
  by_cases ht : a.type = 1
  · simp only [ht, if_true]; omega
  · simp only [ht, if_false]; omega

end Go.Proofs.YtgkalcboklhdgaaDoor

namespace Go.Proofs.YtgkalcboklhdgaaDoor
open Go.RowKit
set_option linter.unusedVariables false
set_option linter.unusedSimpArgs false
open Ex

set_option maxRecDepth 100000 in
set_option maxHeartbeats 8000000 in
theorem exprTypes_walk (e : Ex) (p : Option Addr) (c : Nat) (bs : List Bn) (pb : Option Addr) (cb : Nat) (w : World) (hA : Ex.At w p e) (hB : BAt w pb bs) :
    Gives Tryd.prog 4 #[e.val p c, .slice pb bs.length cb] w (.bool true) := by
  have C0 := Lib.hid (fun W (h : Ext w W) => show Gives _ _ #[.agg #[.int .i64 e.kind, .int .i64 e.op, sV e.name, .int .i64 e.value, .slice p e.args.length c]] _ _ from Great_any e p c W (hA.below h))
  have CG := Lib.hid (fun W (h : Ext w W) => GreatBindings_any bs pb cb W (hB.below h))
  have CB := Lib.hid (fun W (h : Ext w W) => refBound_any bs pb cb W (hB.below h))
  have CT := Lib.hid (fun W (h : Ext w W) => show Gives _ _ #[.agg #[.int .i64 e.kind, .int .i64 e.op, sV e.name, .int .i64 e.value, .slice p e.args.length c], _] _ (.tuple #[.int .i64 (tyR bs e).1, .int .i64 (tyR bs e).2]) from Type_any bs pb cb e p c W (hA.below h) (hB.below h))
  have CE := Lib.hid (fun W (h : Ext w W) => show Gives _ _ #[.agg #[.int .i64 e.kind, .int .i64 e.op, sV e.name, .int .i64 e.value, .slice p e.args.length c], _] _ (.tuple #[.int .i64 (evR bs e).1, .int .i64 (evR bs e).2]) from Eval_any bs pb cb e p c W (hA.below h) (hB.below h))
  have CC := Lib.hid (fun W (h : Ext w W) => CloneB_own bs pb cb W (hB.below h))
  have CA := Lib.hid (fun W => awake_any W)
  have hv : e.val p c = .agg #[.int .i64 e.kind, .int .i64 e.op, sV e.name, .int .i64 e.value, .slice p e.args.length c] := rfl
  rw [hv]
  clear hv
  have hfit := hB.1
  have hlen := hB.1.1
  have Ka := Lib.hid (alloc_here w (.cells #[.int .i64 e.kind, .int .i64 e.op, sV e.name, .int .i64 e.value, .slice p e.args.length c] tEx))
  have HX := Lib.hid (show Ext w _ from (Below.refl w.heap.size w).alloc (Nat.le_refl _) (.cells #[.int .i64 e.kind, .int .i64 e.op, sV e.name, .int .i64 e.value, .slice p e.args.length c] tEx))
  unfold Gives
  cases hge : e.great with
  | true =>
    rw [hge] at C0
    clear hge hA hB hfit
    go_enter Tryd.func4, Tryd.ntmps4
    obtain ⟨a0, a1, a2, a3, a4, a5⟩ := box5z Ka.out
    have lta := lt_of_block Ka.out
    go_wp2_with fail
    refine (C0.out _ HX.out).mono ?_
    intro w1 hE
    replace hE : Ext _ w1 := hE
    clear a0 a1 a2 a3 a4 a5 lta
    replace Ka := Lib.hid ((hE.below.block _ (lt_of_block Ka.out)).trans Ka.out)
    replace HX := Lib.hid (Ext.trans HX.out hE)
    clear hE
    obtain ⟨a0, a1, a2, a3, a4, a5⟩ := box5z Ka.out
    have lta := lt_of_block Ka.out
    go_wp2_with fail
    refine (CA.out _).mono ?_
    intro w2 hE
    replace hE : Ext _ w2 := hE
    clear a0 a1 a2 a3 a4 a5 lta
    replace Ka := Lib.hid ((hE.below.block _ (lt_of_block Ka.out)).trans Ka.out)
    replace HX := Lib.hid (Ext.trans HX.out hE)
    clear hE
    obtain ⟨a0, a1, a2, a3, a4, a5⟩ := box5z Ka.out
    have lta := lt_of_block Ka.out
    clear a0 a1 a2 a3 a4 a5 lta
    go_wp2
    go_ret
    exact ⟨rfl, HX.out⟩
  | false =>
    rw [hge] at C0
    clear hge
    cases hgb : gbs bs with
    | true =>
      rw [hgb] at CG
      clear hgb hA hB hfit
      go_enter Tryd.func4, Tryd.ntmps4
      obtain ⟨a0, a1, a2, a3, a4, a5⟩ := box5z Ka.out
      have lta := lt_of_block Ka.out
      go_wp2_with fail
      refine (C0.out _ HX.out).mono ?_
      intro w1 hE
      replace hE : Ext _ w1 := hE
      clear a0 a1 a2 a3 a4 a5 lta
      replace Ka := Lib.hid ((hE.below.block _ (lt_of_block Ka.out)).trans Ka.out)
      replace HX := Lib.hid (Ext.trans HX.out hE)
      clear hE
      obtain ⟨a0, a1, a2, a3, a4, a5⟩ := box5z Ka.out
      have lta := lt_of_block Ka.out
      go_wp2_with fail
      refine (CG.out _ HX.out).mono ?_
      intro w2 hE
      replace hE : Ext _ w2 := hE
      clear a0 a1 a2 a3 a4 a5 lta
      replace Ka := Lib.hid ((hE.below.block _ (lt_of_block Ka.out)).trans Ka.out)
      replace HX := Lib.hid (Ext.trans HX.out hE)
      clear hE
      obtain ⟨a0, a1, a2, a3, a4, a5⟩ := box5z Ka.out
      have lta := lt_of_block Ka.out
      go_wp2_with fail
      refine (CA.out _).mono ?_
      intro w3 hE
      replace hE : Ext _ w3 := hE
      clear a0 a1 a2 a3 a4 a5 lta
      replace Ka := Lib.hid ((hE.below.block _ (lt_of_block Ka.out)).trans Ka.out)
      replace HX := Lib.hid (Ext.trans HX.out hE)
      clear hE
      obtain ⟨a0, a1, a2, a3, a4, a5⟩ := box5z Ka.out
      have lta := lt_of_block Ka.out
      clear a0 a1 a2 a3 a4 a5 lta
      go_wp2
      go_ret
      exact ⟨rfl, HX.out⟩
    | false =>
      rw [hgb] at CG
      clear hgb
      cases hbb : bnds bs with
      | false =>
        rw [hbb, if_neg (by decide)] at CB
        clear hbb hA hB hfit
        go_enter Tryd.func4, Tryd.ntmps4
        obtain ⟨a0, a1, a2, a3, a4, a5⟩ := box5z Ka.out
        have lta := lt_of_block Ka.out
        go_wp2_with fail
        refine (C0.out _ HX.out).mono ?_
        intro w1 hE
        replace hE : Ext _ w1 := hE
        clear a0 a1 a2 a3 a4 a5 lta
        replace Ka := Lib.hid ((hE.below.block _ (lt_of_block Ka.out)).trans Ka.out)
        replace HX := Lib.hid (Ext.trans HX.out hE)
        clear hE
        obtain ⟨a0, a1, a2, a3, a4, a5⟩ := box5z Ka.out
        have lta := lt_of_block Ka.out
        go_wp2_with fail
        refine (CG.out _ HX.out).mono ?_
        intro w2 hE
        replace hE : Ext _ w2 := hE
        clear a0 a1 a2 a3 a4 a5 lta
        replace Ka := Lib.hid ((hE.below.block _ (lt_of_block Ka.out)).trans Ka.out)
        replace HX := Lib.hid (Ext.trans HX.out hE)
        clear hE
        obtain ⟨a0, a1, a2, a3, a4, a5⟩ := box5z Ka.out
        have lta := lt_of_block Ka.out
        go_wp2_with fail
        refine (CB.out _ HX.out).mono ?_
        intro w3 hE
        replace hE : Ext _ w3 := hE
        clear a0 a1 a2 a3 a4 a5 lta
        replace Ka := Lib.hid ((hE.below.block _ (lt_of_block Ka.out)).trans Ka.out)
        replace HX := Lib.hid (Ext.trans HX.out hE)
        clear hE
        obtain ⟨a0, a1, a2, a3, a4, a5⟩ := box5z Ka.out
        have lta := lt_of_block Ka.out
        go_wp2_with fail
        refine (CA.out _).mono ?_
        intro w4 hE
        replace hE : Ext _ w4 := hE
        clear a0 a1 a2 a3 a4 a5 lta
        replace Ka := Lib.hid ((hE.below.block _ (lt_of_block Ka.out)).trans Ka.out)
        replace HX := Lib.hid (Ext.trans HX.out hE)
        clear hE
        obtain ⟨a0, a1, a2, a3, a4, a5⟩ := box5z Ka.out
        have lta := lt_of_block Ka.out
        clear a0 a1 a2 a3 a4 a5 lta
        go_wp2
        go_ret
        exact ⟨rfl, HX.out⟩
      | true =>
        rw [hbb, if_pos rfl] at CB
        obtain ⟨T1, T2, T3⟩ := types_law hbb e
        have hBv := Lib.hid (fun b (hb : b ∈ bs) => bnds_val hbb hb)
        have CT2 := Lib.hid (fun W q d (h : Ext w W) (hq : BAt W q (bs.map chB)) => show Gives _ _ #[.agg #[.int .i64 e.kind, .int .i64 e.op, sV e.name, .int .i64 e.value, .slice p e.args.length c], .slice q bs.length d] _ (.tuple #[.int .i64 (tyR bs e).1, .int .i64 (tyR bs e).2]) from by
          have := Type_any (bs.map chB) q d e p c W (hA.below h) hq
          rw [tyR_ch hbb, List.length_map] at this
          exact this)
        have HFC := Lib.hid (fits_ch hbb hfit)
        clear hbb hA hB hfit
        generalize (tyR bs e).1 = t0 at *
        generalize (tyR bs e).2 = t1 at *
        generalize (evR bs e) = rr at *
        obtain ⟨r0, r1⟩ := rr
        dsimp only at CE T1 T2 T3
        have HT := Lib.hid (And.intro T1 (And.intro T2 T3))
        clear T1 T2 T3
        generalize hn : bs.length = n at *
        have HN := Lib.hid hn
        clear hn
        have HC : (t1 ≠ 0 ∧ t0 = 0 ∧ r0 = 0 ∧ r1 = t1) ∨ (t1 = 0 ∧ r0 = 0 ∧ r1 = 24) ∨ (t1 = 0 ∧ r0 = 0 ∧ r1 = 14) ∨ (t1 = 0 ∧ r1 = 0 ∧ t0 = 1 ∧ inM r0) ∨ (t1 = 0 ∧ r1 = 0 ∧ t0 = 2 ∧ r0 = 0) ∨ (t1 = 0 ∧ r1 = 0 ∧ t0 = 2 ∧ r0 = 1) := by
          obtain ⟨T1, T2, T3⟩ := HT.out
          by_cases h1 : t1 = 0
          · by_cases h2 : r1 = 0
            · rcases T3 h1 h2 with h | ⟨h, h3 | h3⟩
              · exact .inr (.inr (.inr (.inl ⟨h1, h2, h.1, h.2⟩)))
              · exact .inr (.inr (.inr (.inr (.inl ⟨h1, h2, h, h3⟩))))
              · exact .inr (.inr (.inr (.inr (.inr ⟨h1, h2, h, h3⟩))))
            · obtain ⟨h3, h4 | h4⟩ := T2 h1 h2
              · exact .inr (.inl ⟨h1, h3, h4⟩)
              · exact .inr (.inr (.inl ⟨h1, h3, h4⟩))
          · obtain ⟨h2, h3⟩ := T1 h1
            exact .inl ⟨h1, h2, by simpa using congrArg Prod.fst h3, by simpa using congrArg Prod.snd h3⟩
        clear HT
        rcases HC with ⟨h1, rfl, rfl, rfl⟩ | ⟨rfl, rfl, rfl⟩ | ⟨rfl, rfl, rfl⟩ | ⟨rfl, rfl, rfl, h1⟩ | ⟨rfl, rfl, rfl, rfl⟩ | ⟨rfl, rfl, rfl, rfl⟩
        · have g3 : (r1 == 0) = false := by simpa using h1
          have g4 : (r1 != 0) = true := by simpa using h1
          clear h1
          go_enter Tryd.func4, Tryd.ntmps4
          obtain ⟨a0, a1, a2, a3, a4, a5⟩ := box5z Ka.out
          have lta := lt_of_block Ka.out
          go_wp2_with fail
          refine (C0.out _ HX.out).mono ?_
          intro w1 hE
          replace hE : Ext _ w1 := hE
          clear a0 a1 a2 a3 a4 a5 lta
          replace Ka := Lib.hid ((hE.below.block _ (lt_of_block Ka.out)).trans Ka.out)
          replace HX := Lib.hid (Ext.trans HX.out hE)
          clear hE
          obtain ⟨a0, a1, a2, a3, a4, a5⟩ := box5z Ka.out
          have lta := lt_of_block Ka.out
          go_wp2_with fail
          refine (CG.out _ HX.out).mono ?_
          intro w2 hE
          replace hE : Ext _ w2 := hE
          clear a0 a1 a2 a3 a4 a5 lta
          replace Ka := Lib.hid ((hE.below.block _ (lt_of_block Ka.out)).trans Ka.out)
          replace HX := Lib.hid (Ext.trans HX.out hE)
          clear hE
          obtain ⟨a0, a1, a2, a3, a4, a5⟩ := box5z Ka.out
          have lta := lt_of_block Ka.out
          go_wp2_with fail
          refine (CB.out _ HX.out).mono ?_
          intro w3 hE
          replace hE : Ext _ w3 := hE
          clear a0 a1 a2 a3 a4 a5 lta
          replace Ka := Lib.hid ((hE.below.block _ (lt_of_block Ka.out)).trans Ka.out)
          replace HX := Lib.hid (Ext.trans HX.out hE)
          clear hE
          obtain ⟨a0, a1, a2, a3, a4, a5⟩ := box5z Ka.out
          have lta := lt_of_block Ka.out
          go_wp2_with fail
          refine (CT.out _ HX.out).mono ?_
          intro w4 hE
          replace hE : Ext _ w4 := hE
          clear a0 a1 a2 a3 a4 a5 lta
          replace Ka := Lib.hid ((hE.below.block _ (lt_of_block Ka.out)).trans Ka.out)
          replace HX := Lib.hid (Ext.trans HX.out hE)
          clear hE
          obtain ⟨a0, a1, a2, a3, a4, a5⟩ := box5z Ka.out
          have lta := lt_of_block Ka.out
          have Ka4 := Ka
          have HX4 := HX
          go_wp2_with fail
          refine (CC.out _ HX.out).mono ?_
          rintro _ w5 ⟨q, d, g, rfl, hE, hq⟩
          replace hE : Ext _ w5 := hE
          clear a0 a1 a2 a3 a4 a5 lta
          replace Ka := Lib.hid ((hE.below.block _ (lt_of_block Ka.out)).trans Ka.out)
          replace HX := Lib.hid (Ext.trans HX.out hE)
          have HQ := Lib.hid hq
          have HE5 := Lib.hid hE
          clear hq
          clear hE
          obtain ⟨a0, a1, a2, a3, a4, a5⟩ := box5z Ka.out
          have lta := lt_of_block Ka.out
          clear a0 a1 a2 a3 a4 a5 lta
          go_wp2
          go_loopw [35] (fun i wr => ∃ j : Nat, j ≤ n ∧ i = .int .i64 (j : Int) ∧ (n ≠ 0 → wr.ownsRow w4.heap.size 36 3 (.slice (some ⟨g, 0, none⟩) n d) n (rowB (upB bs j))) ∧ Ext w4 wr) (fun i _ => n - (intOf i).toNat)
          case atStart => exact ⟨0, Nat.zero_le _, rfl, fun h => by rw [upB_zero]; exact (HQ.out h).2, HE5.out⟩
          case round =>
            obtain ⟨j, hj, rfl, hown, hE⟩ := hrel
            have HO := Lib.hid hown
            have HE := Lib.hid hE
            clear hown hE
            by_cases hlt : j < n
            · have hn0 : n ≠ 0 := by omega
              obtain ⟨rfl, _⟩ := HQ.out hn0
              have ho := HO.out hn0
              have hjb : j < bs.length := by rw [HN.out]; exact hlt
              have hju : j < (upB bs j).length := by rw [upB_len]; exact hjb
              have hgt := upB_get bs j hjb
              have g1 : wr.cell? ⟨g, j * 3 + 1, none⟩ = some (.int .i64 (bs[j]).type) := by
                rw [World.ownsRow.cellAt ho (j * 3 + 1) (by omega), rowB_get _ j 1 hju (by omega), hgt]; rfl
              have g2 : wr.cell? ⟨g, j * 3 + 2, none⟩ = some (.int .i64 (bs[j]).value) := by
                rw [World.ownsRow.cellAt ho (j * 3 + 2) (by omega), rowB_get _ j 2 hju (by omega), hgt]; rfl
              have f2 := World.ownsRow.frozenAt ho (j * 3 + 2)
              have hbd := hBv.out bs[j] (List.getElem_mem hjb)
              have HR := Lib.hid (fun x => show (rowB (upB bs j)).set (j * 3 + 2) (.int .i64 x) = rowB ((upB bs j).set j { bs[j] with value := x }) by rw [rowB_set (upB bs j) j hju x, hgt])
              have HU := Lib.hid (upB_succ bs j hjb)
              have hlo := World.ownsRow.lt ho g rfl
              have HLO := Lib.hid hlo.1
              have HOO := Lib.hid ho
              unfold inM at hbd
              obtain ⟨hbd1, hbd2⟩ := hbd
              clear hn0 ho hgt hlo
              generalize bs[j] = bj at *
              obtain ⟨nmj, bt, bv⟩ := bj
              dsimp only at g1 g2 hbd1 hbd2 HR
              by_cases ht : bt = 1
              · subst ht
                have HC1 := Lib.hid (show chB ⟨nmj, 1, bv⟩ = ⟨nmj, 1, 7⟩ from rfl)
                go_wp2
                go_roundw
                case rel =>
                  refine ⟨j + 1, by omega, by go_num, fun _ => ?_, ?_⟩
                  · have h1 := (World.ownsRow.stored HOO.out (j * 3 + 2) (.int .i64 (1 - bv))).1
                    have h2 := (World.ownsRow.stored h1 (j * 3 + 2) (.int .i64 7)).1
                    rw [List.set_set, HR.out 7] at h2
                    rw [HU.out, HC1.out]
                    exact h2
                  · exact (Below.setCell (Below.setCell HE.out (p := ⟨g, j * 3 + 2, none⟩) HLO.out _) (p := ⟨g, j * 3 + 2, none⟩) HLO.out _)
                case measure => simp [intOf]; omega
              · have ht2 : (bt == 1) = false := by simpa using ht
                have HC1 := Lib.hid (show chB ⟨nmj, bt, bv⟩ = ⟨nmj, bt, 1 - bv⟩ by unfold chB; rw [if_neg ht])
                clear ht
                go_wp2
                go_roundw
                case rel =>
                  refine ⟨j + 1, by omega, by go_num, fun _ => ?_, ?_⟩
                  · have h1 := (World.ownsRow.stored HOO.out (j * 3 + 2) (.int .i64 (1 - bv))).1
                    rw [HR.out (1 - bv)] at h1
                    rw [HU.out, HC1.out]
                    exact h1
                  · exact (Below.setCell HE.out (p := ⟨g, j * 3 + 2, none⟩) HLO.out _)
                case measure => simp [intOf]; omega
            · have hjn : j = n := by omega
              subst hjn
              have hE4 : Ext w4 wr := HE.out
              have Ka := Lib.hid ((hE4.below.block _ (lt_of_block Ka4.out)).trans Ka4.out)
              have HX := Lib.hid (Ext.trans HX4.out hE4)
              have HBM := Lib.hid (show BAt wr q (bs.map chB) by
                have hl := HN.out
                by_cases h0 : j = 0
                · have : bs = [] := List.eq_nil_of_length_eq_zero (by omega)
                  subst this
                  exact BAt.nil _ _
                · obtain ⟨rfl, _⟩ := HQ.out h0
                  have ho := HO.out h0
                  rw [upB_end bs j (by omega)] at ho
                  exact ownsB_at ho (by simpa using hl) HFC.out)
              clear HX4 Ka4 hE4 HE5 HQ HO HE
              obtain ⟨a0, a1, a2, a3, a4, a5⟩ := box5z Ka.out
              have lta := lt_of_block Ka.out
              go_wp2_with fail
              refine (CT2.out wr q d HX.out HBM.out).mono ?_
              intro w6 hE
              replace hE : Ext _ w6 := hE
              clear a0 a1 a2 a3 a4 a5 lta
              replace Ka := Lib.hid ((hE.below.block _ (lt_of_block Ka.out)).trans Ka.out)
              replace HX := Lib.hid (Ext.trans HX.out hE)
              clear hE
              obtain ⟨a0, a1, a2, a3, a4, a5⟩ := box5z Ka.out
              have lta := lt_of_block Ka.out
              go_wp2_with fail
              refine (CE.out _ HX.out).mono ?_
              intro w7 hE
              replace hE : Ext _ w7 := hE
              clear a0 a1 a2 a3 a4 a5 lta
              replace Ka := Lib.hid ((hE.below.block _ (lt_of_block Ka.out)).trans Ka.out)
              replace HX := Lib.hid (Ext.trans HX.out hE)
              clear hE
              obtain ⟨a0, a1, a2, a3, a4, a5⟩ := box5z Ka.out
              have lta := lt_of_block Ka.out
              go_wp2_with fail
              refine (CA.out _).mono ?_
              intro w8 hE
              replace hE : Ext _ w8 := hE
              clear a0 a1 a2 a3 a4 a5 lta
              replace Ka := Lib.hid ((hE.below.block _ (lt_of_block Ka.out)).trans Ka.out)
              replace HX := Lib.hid (Ext.trans HX.out hE)
              clear hE
              obtain ⟨a0, a1, a2, a3, a4, a5⟩ := box5z Ka.out
              have lta := lt_of_block Ka.out
              clear a0 a1 a2 a3 a4 a5 lta
              go_wp2
              go_ret
              exact ⟨rfl, HX.out⟩
        · go_enter Tryd.func4, Tryd.ntmps4
          obtain ⟨a0, a1, a2, a3, a4, a5⟩ := box5z Ka.out
          have lta := lt_of_block Ka.out
          go_wp2_with fail
          refine (C0.out _ HX.out).mono ?_
          intro w1 hE
          replace hE : Ext _ w1 := hE
          clear a0 a1 a2 a3 a4 a5 lta
          replace Ka := Lib.hid ((hE.below.block _ (lt_of_block Ka.out)).trans Ka.out)
          replace HX := Lib.hid (Ext.trans HX.out hE)
          clear hE
          obtain ⟨a0, a1, a2, a3, a4, a5⟩ := box5z Ka.out
          have lta := lt_of_block Ka.out
          go_wp2_with fail
          refine (CG.out _ HX.out).mono ?_
          intro w2 hE
          replace hE : Ext _ w2 := hE
          clear a0 a1 a2 a3 a4 a5 lta
          replace Ka := Lib.hid ((hE.below.block _ (lt_of_block Ka.out)).trans Ka.out)
          replace HX := Lib.hid (Ext.trans HX.out hE)
          clear hE
          obtain ⟨a0, a1, a2, a3, a4, a5⟩ := box5z Ka.out
          have lta := lt_of_block Ka.out
          go_wp2_with fail
          refine (CB.out _ HX.out).mono ?_
          intro w3 hE
          replace hE : Ext _ w3 := hE
          clear a0 a1 a2 a3 a4 a5 lta
          replace Ka := Lib.hid ((hE.below.block _ (lt_of_block Ka.out)).trans Ka.out)
          replace HX := Lib.hid (Ext.trans HX.out hE)
          clear hE
          obtain ⟨a0, a1, a2, a3, a4, a5⟩ := box5z Ka.out
          have lta := lt_of_block Ka.out
          go_wp2_with fail
          refine (CT.out _ HX.out).mono ?_
          intro w4 hE
          replace hE : Ext _ w4 := hE
          clear a0 a1 a2 a3 a4 a5 lta
          replace Ka := Lib.hid ((hE.below.block _ (lt_of_block Ka.out)).trans Ka.out)
          replace HX := Lib.hid (Ext.trans HX.out hE)
          clear hE
          obtain ⟨a0, a1, a2, a3, a4, a5⟩ := box5z Ka.out
          have lta := lt_of_block Ka.out
          have Ka4 := Ka
          have HX4 := HX
          go_wp2_with fail
          refine (CC.out _ HX.out).mono ?_
          rintro _ w5 ⟨q, d, g, rfl, hE, hq⟩
          replace hE : Ext _ w5 := hE
          clear a0 a1 a2 a3 a4 a5 lta
          replace Ka := Lib.hid ((hE.below.block _ (lt_of_block Ka.out)).trans Ka.out)
          replace HX := Lib.hid (Ext.trans HX.out hE)
          have HQ := Lib.hid hq
          have HE5 := Lib.hid hE
          clear hq
          clear hE
          obtain ⟨a0, a1, a2, a3, a4, a5⟩ := box5z Ka.out
          have lta := lt_of_block Ka.out
          clear a0 a1 a2 a3 a4 a5 lta
          go_wp2
          go_loopw [35] (fun i wr => ∃ j : Nat, j ≤ n ∧ i = .int .i64 (j : Int) ∧ (n ≠ 0 → wr.ownsRow w4.heap.size 36 3 (.slice (some ⟨g, 0, none⟩) n d) n (rowB (upB bs j))) ∧ Ext w4 wr) (fun i _ => n - (intOf i).toNat)
          case atStart => exact ⟨0, Nat.zero_le _, rfl, fun h => by rw [upB_zero]; exact (HQ.out h).2, HE5.out⟩
          case round =>
            obtain ⟨j, hj, rfl, hown, hE⟩ := hrel
            have HO := Lib.hid hown
            have HE := Lib.hid hE
            clear hown hE
            by_cases hlt : j < n
            · have hn0 : n ≠ 0 := by omega
              obtain ⟨rfl, _⟩ := HQ.out hn0
              have ho := HO.out hn0
              have hjb : j < bs.length := by rw [HN.out]; exact hlt
              have hju : j < (upB bs j).length := by rw [upB_len]; exact hjb
              have hgt := upB_get bs j hjb
              have g1 : wr.cell? ⟨g, j * 3 + 1, none⟩ = some (.int .i64 (bs[j]).type) := by
                rw [World.ownsRow.cellAt ho (j * 3 + 1) (by omega), rowB_get _ j 1 hju (by omega), hgt]; rfl
              have g2 : wr.cell? ⟨g, j * 3 + 2, none⟩ = some (.int .i64 (bs[j]).value) := by
                rw [World.ownsRow.cellAt ho (j * 3 + 2) (by omega), rowB_get _ j 2 hju (by omega), hgt]; rfl
              have f2 := World.ownsRow.frozenAt ho (j * 3 + 2)
              have hbd := hBv.out bs[j] (List.getElem_mem hjb)
              have HR := Lib.hid (fun x => show (rowB (upB bs j)).set (j * 3 + 2) (.int .i64 x) = rowB ((upB bs j).set j { bs[j] with value := x }) by rw [rowB_set (upB bs j) j hju x, hgt])
              have HU := Lib.hid (upB_succ bs j hjb)
              have hlo := World.ownsRow.lt ho g rfl
              have HLO := Lib.hid hlo.1
              have HOO := Lib.hid ho
              unfold inM at hbd
              obtain ⟨hbd1, hbd2⟩ := hbd
              clear hn0 ho hgt hlo
              generalize bs[j] = bj at *
              obtain ⟨nmj, bt, bv⟩ := bj
              dsimp only at g1 g2 hbd1 hbd2 HR
              by_cases ht : bt = 1
              · subst ht
                have HC1 := Lib.hid (show chB ⟨nmj, 1, bv⟩ = ⟨nmj, 1, 7⟩ from rfl)
                go_wp2
                go_roundw
                case rel =>
                  refine ⟨j + 1, by omega, by go_num, fun _ => ?_, ?_⟩
                  · have h1 := (World.ownsRow.stored HOO.out (j * 3 + 2) (.int .i64 (1 - bv))).1
                    have h2 := (World.ownsRow.stored h1 (j * 3 + 2) (.int .i64 7)).1
                    rw [List.set_set, HR.out 7] at h2
                    rw [HU.out, HC1.out]
                    exact h2
                  · exact (Below.setCell (Below.setCell HE.out (p := ⟨g, j * 3 + 2, none⟩) HLO.out _) (p := ⟨g, j * 3 + 2, none⟩) HLO.out _)
                case measure => simp [intOf]; omega
              · have ht2 : (bt == 1) = false := by simpa using ht
                have HC1 := Lib.hid (show chB ⟨nmj, bt, bv⟩ = ⟨nmj, bt, 1 - bv⟩ by unfold chB; rw [if_neg ht])
                clear ht
                go_wp2
                go_roundw
                case rel =>
                  refine ⟨j + 1, by omega, by go_num, fun _ => ?_, ?_⟩
                  · have h1 := (World.ownsRow.stored HOO.out (j * 3 + 2) (.int .i64 (1 - bv))).1
                    rw [HR.out (1 - bv)] at h1
                    rw [HU.out, HC1.out]
                    exact h1
                  · exact (Below.setCell HE.out (p := ⟨g, j * 3 + 2, none⟩) HLO.out _)
                case measure => simp [intOf]; omega
            · have hjn : j = n := by omega
              subst hjn
              have hE4 : Ext w4 wr := HE.out
              have Ka := Lib.hid ((hE4.below.block _ (lt_of_block Ka4.out)).trans Ka4.out)
              have HX := Lib.hid (Ext.trans HX4.out hE4)
              have HBM := Lib.hid (show BAt wr q (bs.map chB) by
                have hl := HN.out
                by_cases h0 : j = 0
                · have : bs = [] := List.eq_nil_of_length_eq_zero (by omega)
                  subst this
                  exact BAt.nil _ _
                · obtain ⟨rfl, _⟩ := HQ.out h0
                  have ho := HO.out h0
                  rw [upB_end bs j (by omega)] at ho
                  exact ownsB_at ho (by simpa using hl) HFC.out)
              clear HX4 Ka4 hE4 HE5 HQ HO HE
              obtain ⟨a0, a1, a2, a3, a4, a5⟩ := box5z Ka.out
              have lta := lt_of_block Ka.out
              go_wp2_with fail
              refine (CT2.out wr q d HX.out HBM.out).mono ?_
              intro w6 hE
              replace hE : Ext _ w6 := hE
              clear a0 a1 a2 a3 a4 a5 lta
              replace Ka := Lib.hid ((hE.below.block _ (lt_of_block Ka.out)).trans Ka.out)
              replace HX := Lib.hid (Ext.trans HX.out hE)
              clear hE
              obtain ⟨a0, a1, a2, a3, a4, a5⟩ := box5z Ka.out
              have lta := lt_of_block Ka.out
              go_wp2_with fail
              refine (CE.out _ HX.out).mono ?_
              intro w7 hE
              replace hE : Ext _ w7 := hE
              clear a0 a1 a2 a3 a4 a5 lta
              replace Ka := Lib.hid ((hE.below.block _ (lt_of_block Ka.out)).trans Ka.out)
              replace HX := Lib.hid (Ext.trans HX.out hE)
              clear hE
              obtain ⟨a0, a1, a2, a3, a4, a5⟩ := box5z Ka.out
              have lta := lt_of_block Ka.out
              go_wp2_with fail
              refine (CA.out _).mono ?_
              intro w8 hE
              replace hE : Ext _ w8 := hE
              clear a0 a1 a2 a3 a4 a5 lta
              replace Ka := Lib.hid ((hE.below.block _ (lt_of_block Ka.out)).trans Ka.out)
              replace HX := Lib.hid (Ext.trans HX.out hE)
              clear hE
              obtain ⟨a0, a1, a2, a3, a4, a5⟩ := box5z Ka.out
              have lta := lt_of_block Ka.out
              clear a0 a1 a2 a3 a4 a5 lta
              go_wp2
              go_ret
              exact ⟨rfl, HX.out⟩
        · go_enter Tryd.func4, Tryd.ntmps4
          obtain ⟨a0, a1, a2, a3, a4, a5⟩ := box5z Ka.out
          have lta := lt_of_block Ka.out
          go_wp2_with fail
          refine (C0.out _ HX.out).mono ?_
          intro w1 hE
          replace hE : Ext _ w1 := hE
          clear a0 a1 a2 a3 a4 a5 lta
          replace Ka := Lib.hid ((hE.below.block _ (lt_of_block Ka.out)).trans Ka.out)
          replace HX := Lib.hid (Ext.trans HX.out hE)
          clear hE
          obtain ⟨a0, a1, a2, a3, a4, a5⟩ := box5z Ka.out
          have lta := lt_of_block Ka.out
          go_wp2_with fail
          refine (CG.out _ HX.out).mono ?_
          intro w2 hE
          replace hE : Ext _ w2 := hE
          clear a0 a1 a2 a3 a4 a5 lta
          replace Ka := Lib.hid ((hE.below.block _ (lt_of_block Ka.out)).trans Ka.out)
          replace HX := Lib.hid (Ext.trans HX.out hE)
          clear hE
          obtain ⟨a0, a1, a2, a3, a4, a5⟩ := box5z Ka.out
          have lta := lt_of_block Ka.out
          go_wp2_with fail
          refine (CB.out _ HX.out).mono ?_
          intro w3 hE
          replace hE : Ext _ w3 := hE
          clear a0 a1 a2 a3 a4 a5 lta
          replace Ka := Lib.hid ((hE.below.block _ (lt_of_block Ka.out)).trans Ka.out)
          replace HX := Lib.hid (Ext.trans HX.out hE)
          clear hE
          obtain ⟨a0, a1, a2, a3, a4, a5⟩ := box5z Ka.out
          have lta := lt_of_block Ka.out
          go_wp2_with fail
          refine (CT.out _ HX.out).mono ?_
          intro w4 hE
          replace hE : Ext _ w4 := hE
          clear a0 a1 a2 a3 a4 a5 lta
          replace Ka := Lib.hid ((hE.below.block _ (lt_of_block Ka.out)).trans Ka.out)
          replace HX := Lib.hid (Ext.trans HX.out hE)
          clear hE
          obtain ⟨a0, a1, a2, a3, a4, a5⟩ := box5z Ka.out
          have lta := lt_of_block Ka.out
          have Ka4 := Ka
          have HX4 := HX
          go_wp2_with fail
          refine (CC.out _ HX.out).mono ?_
          rintro _ w5 ⟨q, d, g, rfl, hE, hq⟩
          replace hE : Ext _ w5 := hE
          clear a0 a1 a2 a3 a4 a5 lta
          replace Ka := Lib.hid ((hE.below.block _ (lt_of_block Ka.out)).trans Ka.out)
          replace HX := Lib.hid (Ext.trans HX.out hE)
          have HQ := Lib.hid hq
          have HE5 := Lib.hid hE
          clear hq
          clear hE
          obtain ⟨a0, a1, a2, a3, a4, a5⟩ := box5z Ka.out
          have lta := lt_of_block Ka.out
          clear a0 a1 a2 a3 a4 a5 lta
          go_wp2
          go_loopw [35] (fun i wr => ∃ j : Nat, j ≤ n ∧ i = .int .i64 (j : Int) ∧ (n ≠ 0 → wr.ownsRow w4.heap.size 36 3 (.slice (some ⟨g, 0, none⟩) n d) n (rowB (upB bs j))) ∧ Ext w4 wr) (fun i _ => n - (intOf i).toNat)
          case atStart => exact ⟨0, Nat.zero_le _, rfl, fun h => by rw [upB_zero]; exact (HQ.out h).2, HE5.out⟩
          case round =>
            obtain ⟨j, hj, rfl, hown, hE⟩ := hrel
            have HO := Lib.hid hown
            have HE := Lib.hid hE
            clear hown hE
            by_cases hlt : j < n
            · have hn0 : n ≠ 0 := by omega
              obtain ⟨rfl, _⟩ := HQ.out hn0
              have ho := HO.out hn0
              have hjb : j < bs.length := by rw [HN.out]; exact hlt
              have hju : j < (upB bs j).length := by rw [upB_len]; exact hjb
              have hgt := upB_get bs j hjb
              have g1 : wr.cell? ⟨g, j * 3 + 1, none⟩ = some (.int .i64 (bs[j]).type) := by
                rw [World.ownsRow.cellAt ho (j * 3 + 1) (by omega), rowB_get _ j 1 hju (by omega), hgt]; rfl
              have g2 : wr.cell? ⟨g, j * 3 + 2, none⟩ = some (.int .i64 (bs[j]).value) := by
                rw [World.ownsRow.cellAt ho (j * 3 + 2) (by omega), rowB_get _ j 2 hju (by omega), hgt]; rfl
              have f2 := World.ownsRow.frozenAt ho (j * 3 + 2)
              have hbd := hBv.out bs[j] (List.getElem_mem hjb)
              have HR := Lib.hid (fun x => show (rowB (upB bs j)).set (j * 3 + 2) (.int .i64 x) = rowB ((upB bs j).set j { bs[j] with value := x }) by rw [rowB_set (upB bs j) j hju x, hgt])
              have HU := Lib.hid (upB_succ bs j hjb)
              have hlo := World.ownsRow.lt ho g rfl
              have HLO := Lib.hid hlo.1
              have HOO := Lib.hid ho
              unfold inM at hbd
              obtain ⟨hbd1, hbd2⟩ := hbd
              clear hn0 ho hgt hlo
              generalize bs[j] = bj at *
              obtain ⟨nmj, bt, bv⟩ := bj
              dsimp only at g1 g2 hbd1 hbd2 HR
              by_cases ht : bt = 1
              · subst ht
                have HC1 := Lib.hid (show chB ⟨nmj, 1, bv⟩ = ⟨nmj, 1, 7⟩ from rfl)
                go_wp2
                go_roundw
                case rel =>
                  refine ⟨j + 1, by omega, by go_num, fun _ => ?_, ?_⟩
                  · have h1 := (World.ownsRow.stored HOO.out (j * 3 + 2) (.int .i64 (1 - bv))).1
                    have h2 := (World.ownsRow.stored h1 (j * 3 + 2) (.int .i64 7)).1
                    rw [List.set_set, HR.out 7] at h2
                    rw [HU.out, HC1.out]
                    exact h2
                  · exact (Below.setCell (Below.setCell HE.out (p := ⟨g, j * 3 + 2, none⟩) HLO.out _) (p := ⟨g, j * 3 + 2, none⟩) HLO.out _)
                case measure => simp [intOf]; omega
              · have ht2 : (bt == 1) = false := by simpa using ht
                have HC1 := Lib.hid (show chB ⟨nmj, bt, bv⟩ = ⟨nmj, bt, 1 - bv⟩ by unfold chB; rw [if_neg ht])
                clear ht
                go_wp2
                go_roundw
                case rel =>
                  refine ⟨j + 1, by omega, by go_num, fun _ => ?_, ?_⟩
                  · have h1 := (World.ownsRow.stored HOO.out (j * 3 + 2) (.int .i64 (1 - bv))).1
                    rw [HR.out (1 - bv)] at h1
                    rw [HU.out, HC1.out]
                    exact h1
                  · exact (Below.setCell HE.out (p := ⟨g, j * 3 + 2, none⟩) HLO.out _)
                case measure => simp [intOf]; omega
            · have hjn : j = n := by omega
              subst hjn
              have hE4 : Ext w4 wr := HE.out
              have Ka := Lib.hid ((hE4.below.block _ (lt_of_block Ka4.out)).trans Ka4.out)
              have HX := Lib.hid (Ext.trans HX4.out hE4)
              have HBM := Lib.hid (show BAt wr q (bs.map chB) by
                have hl := HN.out
                by_cases h0 : j = 0
                · have : bs = [] := List.eq_nil_of_length_eq_zero (by omega)
                  subst this
                  exact BAt.nil _ _
                · obtain ⟨rfl, _⟩ := HQ.out h0
                  have ho := HO.out h0
                  rw [upB_end bs j (by omega)] at ho
                  exact ownsB_at ho (by simpa using hl) HFC.out)
              clear HX4 Ka4 hE4 HE5 HQ HO HE
              obtain ⟨a0, a1, a2, a3, a4, a5⟩ := box5z Ka.out
              have lta := lt_of_block Ka.out
              go_wp2_with fail
              refine (CT2.out wr q d HX.out HBM.out).mono ?_
              intro w6 hE
              replace hE : Ext _ w6 := hE
              clear a0 a1 a2 a3 a4 a5 lta
              replace Ka := Lib.hid ((hE.below.block _ (lt_of_block Ka.out)).trans Ka.out)
              replace HX := Lib.hid (Ext.trans HX.out hE)
              clear hE
              obtain ⟨a0, a1, a2, a3, a4, a5⟩ := box5z Ka.out
              have lta := lt_of_block Ka.out
              go_wp2_with fail
              refine (CE.out _ HX.out).mono ?_
              intro w7 hE
              replace hE : Ext _ w7 := hE
              clear a0 a1 a2 a3 a4 a5 lta
              replace Ka := Lib.hid ((hE.below.block _ (lt_of_block Ka.out)).trans Ka.out)
              replace HX := Lib.hid (Ext.trans HX.out hE)
              clear hE
              obtain ⟨a0, a1, a2, a3, a4, a5⟩ := box5z Ka.out
              have lta := lt_of_block Ka.out
              go_wp2_with fail
              refine (CA.out _).mono ?_
              intro w8 hE
              replace hE : Ext _ w8 := hE
              clear a0 a1 a2 a3 a4 a5 lta
              replace Ka := Lib.hid ((hE.below.block _ (lt_of_block Ka.out)).trans Ka.out)
              replace HX := Lib.hid (Ext.trans HX.out hE)
              clear hE
              obtain ⟨a0, a1, a2, a3, a4, a5⟩ := box5z Ka.out
              have lta := lt_of_block Ka.out
              clear a0 a1 a2 a3 a4 a5 lta
              go_wp2
              go_ret
              exact ⟨rfl, HX.out⟩
        · obtain ⟨g3, g4⟩ := h1
          go_enter Tryd.func4, Tryd.ntmps4
          obtain ⟨a0, a1, a2, a3, a4, a5⟩ := box5z Ka.out
          have lta := lt_of_block Ka.out
          go_wp2_with fail
          refine (C0.out _ HX.out).mono ?_
          intro w1 hE
          replace hE : Ext _ w1 := hE
          clear a0 a1 a2 a3 a4 a5 lta
          replace Ka := Lib.hid ((hE.below.block _ (lt_of_block Ka.out)).trans Ka.out)
          replace HX := Lib.hid (Ext.trans HX.out hE)
          clear hE
          obtain ⟨a0, a1, a2, a3, a4, a5⟩ := box5z Ka.out
          have lta := lt_of_block Ka.out
          go_wp2_with fail
          refine (CG.out _ HX.out).mono ?_
          intro w2 hE
          replace hE : Ext _ w2 := hE
          clear a0 a1 a2 a3 a4 a5 lta
          replace Ka := Lib.hid ((hE.below.block _ (lt_of_block Ka.out)).trans Ka.out)
          replace HX := Lib.hid (Ext.trans HX.out hE)
          clear hE
          obtain ⟨a0, a1, a2, a3, a4, a5⟩ := box5z Ka.out
          have lta := lt_of_block Ka.out
          go_wp2_with fail
          refine (CB.out _ HX.out).mono ?_
          intro w3 hE
          replace hE : Ext _ w3 := hE
          clear a0 a1 a2 a3 a4 a5 lta
          replace Ka := Lib.hid ((hE.below.block _ (lt_of_block Ka.out)).trans Ka.out)
          replace HX := Lib.hid (Ext.trans HX.out hE)
          clear hE
          obtain ⟨a0, a1, a2, a3, a4, a5⟩ := box5z Ka.out
          have lta := lt_of_block Ka.out
          go_wp2_with fail
          refine (CT.out _ HX.out).mono ?_
          intro w4 hE
          replace hE : Ext _ w4 := hE
          clear a0 a1 a2 a3 a4 a5 lta
          replace Ka := Lib.hid ((hE.below.block _ (lt_of_block Ka.out)).trans Ka.out)
          replace HX := Lib.hid (Ext.trans HX.out hE)
          clear hE
          obtain ⟨a0, a1, a2, a3, a4, a5⟩ := box5z Ka.out
          have lta := lt_of_block Ka.out
          have Ka4 := Ka
          have HX4 := HX
          go_wp2_with fail
          refine (CC.out _ HX.out).mono ?_
          rintro _ w5 ⟨q, d, g, rfl, hE, hq⟩
          replace hE : Ext _ w5 := hE
          clear a0 a1 a2 a3 a4 a5 lta
          replace Ka := Lib.hid ((hE.below.block _ (lt_of_block Ka.out)).trans Ka.out)
          replace HX := Lib.hid (Ext.trans HX.out hE)
          have HQ := Lib.hid hq
          have HE5 := Lib.hid hE
          clear hq
          clear hE
          obtain ⟨a0, a1, a2, a3, a4, a5⟩ := box5z Ka.out
          have lta := lt_of_block Ka.out
          clear a0 a1 a2 a3 a4 a5 lta
          go_wp2
          go_loopw [35] (fun i wr => ∃ j : Nat, j ≤ n ∧ i = .int .i64 (j : Int) ∧ (n ≠ 0 → wr.ownsRow w4.heap.size 36 3 (.slice (some ⟨g, 0, none⟩) n d) n (rowB (upB bs j))) ∧ Ext w4 wr) (fun i _ => n - (intOf i).toNat)
          case atStart => exact ⟨0, Nat.zero_le _, rfl, fun h => by rw [upB_zero]; exact (HQ.out h).2, HE5.out⟩
          case round =>
            obtain ⟨j, hj, rfl, hown, hE⟩ := hrel
            have HO := Lib.hid hown
            have HE := Lib.hid hE
            clear hown hE
            by_cases hlt : j < n
            · have hn0 : n ≠ 0 := by omega
              obtain ⟨rfl, _⟩ := HQ.out hn0
              have ho := HO.out hn0
              have hjb : j < bs.length := by rw [HN.out]; exact hlt
              have hju : j < (upB bs j).length := by rw [upB_len]; exact hjb
              have hgt := upB_get bs j hjb
              have g1 : wr.cell? ⟨g, j * 3 + 1, none⟩ = some (.int .i64 (bs[j]).type) := by
                rw [World.ownsRow.cellAt ho (j * 3 + 1) (by omega), rowB_get _ j 1 hju (by omega), hgt]; rfl
              have g2 : wr.cell? ⟨g, j * 3 + 2, none⟩ = some (.int .i64 (bs[j]).value) := by
                rw [World.ownsRow.cellAt ho (j * 3 + 2) (by omega), rowB_get _ j 2 hju (by omega), hgt]; rfl
              have f2 := World.ownsRow.frozenAt ho (j * 3 + 2)
              have hbd := hBv.out bs[j] (List.getElem_mem hjb)
              have HR := Lib.hid (fun x => show (rowB (upB bs j)).set (j * 3 + 2) (.int .i64 x) = rowB ((upB bs j).set j { bs[j] with value := x }) by rw [rowB_set (upB bs j) j hju x, hgt])
              have HU := Lib.hid (upB_succ bs j hjb)
              have hlo := World.ownsRow.lt ho g rfl
              have HLO := Lib.hid hlo.1
              have HOO := Lib.hid ho
              unfold inM at hbd
              obtain ⟨hbd1, hbd2⟩ := hbd
              clear hn0 ho hgt hlo
              generalize bs[j] = bj at *
              obtain ⟨nmj, bt, bv⟩ := bj
              dsimp only at g1 g2 hbd1 hbd2 HR
              by_cases ht : bt = 1
              · subst ht
                have HC1 := Lib.hid (show chB ⟨nmj, 1, bv⟩ = ⟨nmj, 1, 7⟩ from rfl)
                go_wp2
                go_roundw
                case rel =>
                  refine ⟨j + 1, by omega, by go_num, fun _ => ?_, ?_⟩
                  · have h1 := (World.ownsRow.stored HOO.out (j * 3 + 2) (.int .i64 (1 - bv))).1
                    have h2 := (World.ownsRow.stored h1 (j * 3 + 2) (.int .i64 7)).1
                    rw [List.set_set, HR.out 7] at h2
                    rw [HU.out, HC1.out]
                    exact h2
                  · exact (Below.setCell (Below.setCell HE.out (p := ⟨g, j * 3 + 2, none⟩) HLO.out _) (p := ⟨g, j * 3 + 2, none⟩) HLO.out _)
                case measure => simp [intOf]; omega
              · have ht2 : (bt == 1) = false := by simpa using ht
                have HC1 := Lib.hid (show chB ⟨nmj, bt, bv⟩ = ⟨nmj, bt, 1 - bv⟩ by unfold chB; rw [if_neg ht])
                clear ht
                go_wp2
                go_roundw
                case rel =>
                  refine ⟨j + 1, by omega, by go_num, fun _ => ?_, ?_⟩
                  · have h1 := (World.ownsRow.stored HOO.out (j * 3 + 2) (.int .i64 (1 - bv))).1
                    rw [HR.out (1 - bv)] at h1
                    rw [HU.out, HC1.out]
                    exact h1
                  · exact (Below.setCell HE.out (p := ⟨g, j * 3 + 2, none⟩) HLO.out _)
                case measure => simp [intOf]; omega
            · have hjn : j = n := by omega
              subst hjn
              have hE4 : Ext w4 wr := HE.out
              have Ka := Lib.hid ((hE4.below.block _ (lt_of_block Ka4.out)).trans Ka4.out)
              have HX := Lib.hid (Ext.trans HX4.out hE4)
              have HBM := Lib.hid (show BAt wr q (bs.map chB) by
                have hl := HN.out
                by_cases h0 : j = 0
                · have : bs = [] := List.eq_nil_of_length_eq_zero (by omega)
                  subst this
                  exact BAt.nil _ _
                · obtain ⟨rfl, _⟩ := HQ.out h0
                  have ho := HO.out h0
                  rw [upB_end bs j (by omega)] at ho
                  exact ownsB_at ho (by simpa using hl) HFC.out)
              clear HX4 Ka4 hE4 HE5 HQ HO HE
              obtain ⟨a0, a1, a2, a3, a4, a5⟩ := box5z Ka.out
              have lta := lt_of_block Ka.out
              go_wp2_with fail
              refine (CT2.out wr q d HX.out HBM.out).mono ?_
              intro w6 hE
              replace hE : Ext _ w6 := hE
              clear a0 a1 a2 a3 a4 a5 lta
              replace Ka := Lib.hid ((hE.below.block _ (lt_of_block Ka.out)).trans Ka.out)
              replace HX := Lib.hid (Ext.trans HX.out hE)
              clear hE
              obtain ⟨a0, a1, a2, a3, a4, a5⟩ := box5z Ka.out
              have lta := lt_of_block Ka.out
              go_wp2_with fail
              refine (CE.out _ HX.out).mono ?_
              intro w7 hE
              replace hE : Ext _ w7 := hE
              clear a0 a1 a2 a3 a4 a5 lta
              replace Ka := Lib.hid ((hE.below.block _ (lt_of_block Ka.out)).trans Ka.out)
              replace HX := Lib.hid (Ext.trans HX.out hE)
              clear hE
              obtain ⟨a0, a1, a2, a3, a4, a5⟩ := box5z Ka.out
              have lta := lt_of_block Ka.out
              go_wp2_with fail
              refine (CA.out _).mono ?_
              intro w8 hE
              replace hE : Ext _ w8 := hE
              clear a0 a1 a2 a3 a4 a5 lta
              replace Ka := Lib.hid ((hE.below.block _ (lt_of_block Ka.out)).trans Ka.out)
              replace HX := Lib.hid (Ext.trans HX.out hE)
              clear hE
              obtain ⟨a0, a1, a2, a3, a4, a5⟩ := box5z Ka.out
              have lta := lt_of_block Ka.out
              clear a0 a1 a2 a3 a4 a5 lta
              go_wp2
              go_ret
              exact ⟨rfl, HX.out⟩
        · go_enter Tryd.func4, Tryd.ntmps4
          obtain ⟨a0, a1, a2, a3, a4, a5⟩ := box5z Ka.out
          have lta := lt_of_block Ka.out
          go_wp2_with fail
          refine (C0.out _ HX.out).mono ?_
          intro w1 hE
          replace hE : Ext _ w1 := hE
          clear a0 a1 a2 a3 a4 a5 lta
          replace Ka := Lib.hid ((hE.below.block _ (lt_of_block Ka.out)).trans Ka.out)
          replace HX := Lib.hid (Ext.trans HX.out hE)
          clear hE
          obtain ⟨a0, a1, a2, a3, a4, a5⟩ := box5z Ka.out
          have lta := lt_of_block Ka.out
          go_wp2_with fail
          refine (CG.out _ HX.out).mono ?_
          intro w2 hE
          replace hE : Ext _ w2 := hE
          clear a0 a1 a2 a3 a4 a5 lta
          replace Ka := Lib.hid ((hE.below.block _ (lt_of_block Ka.out)).trans Ka.out)
          replace HX := Lib.hid (Ext.trans HX.out hE)
          clear hE
          obtain ⟨a0, a1, a2, a3, a4, a5⟩ := box5z Ka.out
          have lta := lt_of_block Ka.out
          go_wp2_with fail
          refine (CB.out _ HX.out).mono ?_
          intro w3 hE
          replace hE : Ext _ w3 := hE
          clear a0 a1 a2 a3 a4 a5 lta
          replace Ka := Lib.hid ((hE.below.block _ (lt_of_block Ka.out)).trans Ka.out)
          replace HX := Lib.hid (Ext.trans HX.out hE)
          clear hE
          obtain ⟨a0, a1, a2, a3, a4, a5⟩ := box5z Ka.out
          have lta := lt_of_block Ka.out
          go_wp2_with fail
          refine (CT.out _ HX.out).mono ?_
          intro w4 hE
          replace hE : Ext _ w4 := hE
          clear a0 a1 a2 a3 a4 a5 lta
          replace Ka := Lib.hid ((hE.below.block _ (lt_of_block Ka.out)).trans Ka.out)
          replace HX := Lib.hid (Ext.trans HX.out hE)
          clear hE
          obtain ⟨a0, a1, a2, a3, a4, a5⟩ := box5z Ka.out
          have lta := lt_of_block Ka.out
          have Ka4 := Ka
          have HX4 := HX
          go_wp2_with fail
          refine (CC.out _ HX.out).mono ?_
          rintro _ w5 ⟨q, d, g, rfl, hE, hq⟩
          replace hE : Ext _ w5 := hE
          clear a0 a1 a2 a3 a4 a5 lta
          replace Ka := Lib.hid ((hE.below.block _ (lt_of_block Ka.out)).trans Ka.out)
          replace HX := Lib.hid (Ext.trans HX.out hE)
          have HQ := Lib.hid hq
          have HE5 := Lib.hid hE
          clear hq
          clear hE
          obtain ⟨a0, a1, a2, a3, a4, a5⟩ := box5z Ka.out
          have lta := lt_of_block Ka.out
          clear a0 a1 a2 a3 a4 a5 lta
          go_wp2
          go_loopw [35] (fun i wr => ∃ j : Nat, j ≤ n ∧ i = .int .i64 (j : Int) ∧ (n ≠ 0 → wr.ownsRow w4.heap.size 36 3 (.slice (some ⟨g, 0, none⟩) n d) n (rowB (upB bs j))) ∧ Ext w4 wr) (fun i _ => n - (intOf i).toNat)
          case atStart => exact ⟨0, Nat.zero_le _, rfl, fun h => by rw [upB_zero]; exact (HQ.out h).2, HE5.out⟩
          case round =>
            obtain ⟨j, hj, rfl, hown, hE⟩ := hrel
            have HO := Lib.hid hown
            have HE := Lib.hid hE
            clear hown hE
            by_cases hlt : j < n
            · have hn0 : n ≠ 0 := by omega
              obtain ⟨rfl, _⟩ := HQ.out hn0
              have ho := HO.out hn0
              have hjb : j < bs.length := by rw [HN.out]; exact hlt
              have hju : j < (upB bs j).length := by rw [upB_len]; exact hjb
              have hgt := upB_get bs j hjb
              have g1 : wr.cell? ⟨g, j * 3 + 1, none⟩ = some (.int .i64 (bs[j]).type) := by
                rw [World.ownsRow.cellAt ho (j * 3 + 1) (by omega), rowB_get _ j 1 hju (by omega), hgt]; rfl
              have g2 : wr.cell? ⟨g, j * 3 + 2, none⟩ = some (.int .i64 (bs[j]).value) := by
                rw [World.ownsRow.cellAt ho (j * 3 + 2) (by omega), rowB_get _ j 2 hju (by omega), hgt]; rfl
              have f2 := World.ownsRow.frozenAt ho (j * 3 + 2)
              have hbd := hBv.out bs[j] (List.getElem_mem hjb)
              have HR := Lib.hid (fun x => show (rowB (upB bs j)).set (j * 3 + 2) (.int .i64 x) = rowB ((upB bs j).set j { bs[j] with value := x }) by rw [rowB_set (upB bs j) j hju x, hgt])
              have HU := Lib.hid (upB_succ bs j hjb)
              have hlo := World.ownsRow.lt ho g rfl
              have HLO := Lib.hid hlo.1
              have HOO := Lib.hid ho
              unfold inM at hbd
              obtain ⟨hbd1, hbd2⟩ := hbd
              clear hn0 ho hgt hlo
              generalize bs[j] = bj at *
              obtain ⟨nmj, bt, bv⟩ := bj
              dsimp only at g1 g2 hbd1 hbd2 HR
              by_cases ht : bt = 1
              · subst ht
                have HC1 := Lib.hid (show chB ⟨nmj, 1, bv⟩ = ⟨nmj, 1, 7⟩ from rfl)
                go_wp2
                go_roundw
                case rel =>
                  refine ⟨j + 1, by omega, by go_num, fun _ => ?_, ?_⟩
                  · have h1 := (World.ownsRow.stored HOO.out (j * 3 + 2) (.int .i64 (1 - bv))).1
                    have h2 := (World.ownsRow.stored h1 (j * 3 + 2) (.int .i64 7)).1
                    rw [List.set_set, HR.out 7] at h2
                    rw [HU.out, HC1.out]
                    exact h2
                  · exact (Below.setCell (Below.setCell HE.out (p := ⟨g, j * 3 + 2, none⟩) HLO.out _) (p := ⟨g, j * 3 + 2, none⟩) HLO.out _)
                case measure => simp [intOf]; omega
              · have ht2 : (bt == 1) = false := by simpa using ht
                have HC1 := Lib.hid (show chB ⟨nmj, bt, bv⟩ = ⟨nmj, bt, 1 - bv⟩ by unfold chB; rw [if_neg ht])
                clear ht
                go_wp2
                go_roundw
                case rel =>
                  refine ⟨j + 1, by omega, by go_num, fun _ => ?_, ?_⟩
                  · have h1 := (World.ownsRow.stored HOO.out (j * 3 + 2) (.int .i64 (1 - bv))).1
                    rw [HR.out (1 - bv)] at h1
                    rw [HU.out, HC1.out]
                    exact h1
                  · exact (Below.setCell HE.out (p := ⟨g, j * 3 + 2, none⟩) HLO.out _)
                case measure => simp [intOf]; omega
            · have hjn : j = n := by omega
              subst hjn
              have hE4 : Ext w4 wr := HE.out
              have Ka := Lib.hid ((hE4.below.block _ (lt_of_block Ka4.out)).trans Ka4.out)
              have HX := Lib.hid (Ext.trans HX4.out hE4)
              have HBM := Lib.hid (show BAt wr q (bs.map chB) by
                have hl := HN.out
                by_cases h0 : j = 0
                · have : bs = [] := List.eq_nil_of_length_eq_zero (by omega)
                  subst this
                  exact BAt.nil _ _
                · obtain ⟨rfl, _⟩ := HQ.out h0
                  have ho := HO.out h0
                  rw [upB_end bs j (by omega)] at ho
                  exact ownsB_at ho (by simpa using hl) HFC.out)
              clear HX4 Ka4 hE4 HE5 HQ HO HE
              obtain ⟨a0, a1, a2, a3, a4, a5⟩ := box5z Ka.out
              have lta := lt_of_block Ka.out
              go_wp2_with fail
              refine (CT2.out wr q d HX.out HBM.out).mono ?_
              intro w6 hE
              replace hE : Ext _ w6 := hE
              clear a0 a1 a2 a3 a4 a5 lta
              replace Ka := Lib.hid ((hE.below.block _ (lt_of_block Ka.out)).trans Ka.out)
              replace HX := Lib.hid (Ext.trans HX.out hE)
              clear hE
              obtain ⟨a0, a1, a2, a3, a4, a5⟩ := box5z Ka.out
              have lta := lt_of_block Ka.out
              go_wp2_with fail
              refine (CE.out _ HX.out).mono ?_
              intro w7 hE
              replace hE : Ext _ w7 := hE
              clear a0 a1 a2 a3 a4 a5 lta
              replace Ka := Lib.hid ((hE.below.block _ (lt_of_block Ka.out)).trans Ka.out)
              replace HX := Lib.hid (Ext.trans HX.out hE)
              clear hE
              obtain ⟨a0, a1, a2, a3, a4, a5⟩ := box5z Ka.out
              have lta := lt_of_block Ka.out
              go_wp2_with fail
              refine (CA.out _).mono ?_
              intro w8 hE
              replace hE : Ext _ w8 := hE
              clear a0 a1 a2 a3 a4 a5 lta
              replace Ka := Lib.hid ((hE.below.block _ (lt_of_block Ka.out)).trans Ka.out)
              replace HX := Lib.hid (Ext.trans HX.out hE)
              clear hE
              obtain ⟨a0, a1, a2, a3, a4, a5⟩ := box5z Ka.out
              have lta := lt_of_block Ka.out
              clear a0 a1 a2 a3 a4 a5 lta
              go_wp2
              go_ret
              exact ⟨rfl, HX.out⟩
        · go_enter Tryd.func4, Tryd.ntmps4
          obtain ⟨a0, a1, a2, a3, a4, a5⟩ := box5z Ka.out
          have lta := lt_of_block Ka.out
          go_wp2_with fail
          refine (C0.out _ HX.out).mono ?_
          intro w1 hE
          replace hE : Ext _ w1 := hE
          clear a0 a1 a2 a3 a4 a5 lta
          replace Ka := Lib.hid ((hE.below.block _ (lt_of_block Ka.out)).trans Ka.out)
          replace HX := Lib.hid (Ext.trans HX.out hE)
          clear hE
          obtain ⟨a0, a1, a2, a3, a4, a5⟩ := box5z Ka.out
          have lta := lt_of_block Ka.out
          go_wp2_with fail
          refine (CG.out _ HX.out).mono ?_
          intro w2 hE
          replace hE : Ext _ w2 := hE
          clear a0 a1 a2 a3 a4 a5 lta
          replace Ka := Lib.hid ((hE.below.block _ (lt_of_block Ka.out)).trans Ka.out)
          replace HX := Lib.hid (Ext.trans HX.out hE)
          clear hE
          obtain ⟨a0, a1, a2, a3, a4, a5⟩ := box5z Ka.out
          have lta := lt_of_block Ka.out
          go_wp2_with fail
          refine (CB.out _ HX.out).mono ?_
          intro w3 hE
          replace hE : Ext _ w3 := hE
          clear a0 a1 a2 a3 a4 a5 lta
          replace Ka := Lib.hid ((hE.below.block _ (lt_of_block Ka.out)).trans Ka.out)
          replace HX := Lib.hid (Ext.trans HX.out hE)
          clear hE
          obtain ⟨a0, a1, a2, a3, a4, a5⟩ := box5z Ka.out
          have lta := lt_of_block Ka.out
          go_wp2_with fail
          refine (CT.out _ HX.out).mono ?_
          intro w4 hE
          replace hE : Ext _ w4 := hE
          clear a0 a1 a2 a3 a4 a5 lta
          replace Ka := Lib.hid ((hE.below.block _ (lt_of_block Ka.out)).trans Ka.out)
          replace HX := Lib.hid (Ext.trans HX.out hE)
          clear hE
          obtain ⟨a0, a1, a2, a3, a4, a5⟩ := box5z Ka.out
          have lta := lt_of_block Ka.out
          have Ka4 := Ka
          have HX4 := HX
          go_wp2_with fail
          refine (CC.out _ HX.out).mono ?_
          rintro _ w5 ⟨q, d, g, rfl, hE, hq⟩
          replace hE : Ext _ w5 := hE
          clear a0 a1 a2 a3 a4 a5 lta
          replace Ka := Lib.hid ((hE.below.block _ (lt_of_block Ka.out)).trans Ka.out)
          replace HX := Lib.hid (Ext.trans HX.out hE)
          have HQ := Lib.hid hq
          have HE5 := Lib.hid hE
          clear hq
          clear hE
          obtain ⟨a0, a1, a2, a3, a4, a5⟩ := box5z Ka.out
          have lta := lt_of_block Ka.out
          clear a0 a1 a2 a3 a4 a5 lta
          go_wp2
          go_loopw [35] (fun i wr => ∃ j : Nat, j ≤ n ∧ i = .int .i64 (j : Int) ∧ (n ≠ 0 → wr.ownsRow w4.heap.size 36 3 (.slice (some ⟨g, 0, none⟩) n d) n (rowB (upB bs j))) ∧ Ext w4 wr) (fun i _ => n - (intOf i).toNat)
          case atStart => exact ⟨0, Nat.zero_le _, rfl, fun h => by rw [upB_zero]; exact (HQ.out h).2, HE5.out⟩
          case round =>
            obtain ⟨j, hj, rfl, hown, hE⟩ := hrel
            have HO := Lib.hid hown
            have HE := Lib.hid hE
            clear hown hE
            by_cases hlt : j < n
            · have hn0 : n ≠ 0 := by omega
              obtain ⟨rfl, _⟩ := HQ.out hn0
              have ho := HO.out hn0
              have hjb : j < bs.length := by rw [HN.out]; exact hlt
              have hju : j < (upB bs j).length := by rw [upB_len]; exact hjb
              have hgt := upB_get bs j hjb
              have g1 : wr.cell? ⟨g, j * 3 + 1, none⟩ = some (.int .i64 (bs[j]).type) := by
                rw [World.ownsRow.cellAt ho (j * 3 + 1) (by omega), rowB_get _ j 1 hju (by omega), hgt]; rfl
              have g2 : wr.cell? ⟨g, j * 3 + 2, none⟩ = some (.int .i64 (bs[j]).value) := by
                rw [World.ownsRow.cellAt ho (j * 3 + 2) (by omega), rowB_get _ j 2 hju (by omega), hgt]; rfl
              have f2 := World.ownsRow.frozenAt ho (j * 3 + 2)
              have hbd := hBv.out bs[j] (List.getElem_mem hjb)
              have HR := Lib.hid (fun x => show (rowB (upB bs j)).set (j * 3 + 2) (.int .i64 x) = rowB ((upB bs j).set j { bs[j] with value := x }) by rw [rowB_set (upB bs j) j hju x, hgt])
              have HU := Lib.hid (upB_succ bs j hjb)
              have hlo := World.ownsRow.lt ho g rfl
              have HLO := Lib.hid hlo.1
              have HOO := Lib.hid ho
              unfold inM at hbd
              obtain ⟨hbd1, hbd2⟩ := hbd
              clear hn0 ho hgt hlo
              generalize bs[j] = bj at *
              obtain ⟨nmj, bt, bv⟩ := bj
              dsimp only at g1 g2 hbd1 hbd2 HR
              by_cases ht : bt = 1
              · subst ht
                have HC1 := Lib.hid (show chB ⟨nmj, 1, bv⟩ = ⟨nmj, 1, 7⟩ from rfl)
                go_wp2
                go_roundw
                case rel =>
                  refine ⟨j + 1, by omega, by go_num, fun _ => ?_, ?_⟩
                  · have h1 := (World.ownsRow.stored HOO.out (j * 3 + 2) (.int .i64 (1 - bv))).1
                    have h2 := (World.ownsRow.stored h1 (j * 3 + 2) (.int .i64 7)).1
                    rw [List.set_set, HR.out 7] at h2
                    rw [HU.out, HC1.out]
                    exact h2
                  · exact (Below.setCell (Below.setCell HE.out (p := ⟨g, j * 3 + 2, none⟩) HLO.out _) (p := ⟨g, j * 3 + 2, none⟩) HLO.out _)
                case measure => simp [intOf]; omega
              · have ht2 : (bt == 1) = false := by simpa using ht
                have HC1 := Lib.hid (show chB ⟨nmj, bt, bv⟩ = ⟨nmj, bt, 1 - bv⟩ by unfold chB; rw [if_neg ht])
                clear ht
                go_wp2
                go_roundw
                case rel =>
                  refine ⟨j + 1, by omega, by go_num, fun _ => ?_, ?_⟩
                  · have h1 := (World.ownsRow.stored HOO.out (j * 3 + 2) (.int .i64 (1 - bv))).1
                    rw [HR.out (1 - bv)] at h1
                    rw [HU.out, HC1.out]
                    exact h1
                  · exact (Below.setCell HE.out (p := ⟨g, j * 3 + 2, none⟩) HLO.out _)
                case measure => simp [intOf]; omega
            · have hjn : j = n := by omega
              subst hjn
              have hE4 : Ext w4 wr := HE.out
              have Ka := Lib.hid ((hE4.below.block _ (lt_of_block Ka4.out)).trans Ka4.out)
              have HX := Lib.hid (Ext.trans HX4.out hE4)
              have HBM := Lib.hid (show BAt wr q (bs.map chB) by
                have hl := HN.out
                by_cases h0 : j = 0
                · have : bs = [] := List.eq_nil_of_length_eq_zero (by omega)
                  subst this
                  exact BAt.nil _ _
                · obtain ⟨rfl, _⟩ := HQ.out h0
                  have ho := HO.out h0
                  rw [upB_end bs j (by omega)] at ho
                  exact ownsB_at ho (by simpa using hl) HFC.out)
              clear HX4 Ka4 hE4 HE5 HQ HO HE
              obtain ⟨a0, a1, a2, a3, a4, a5⟩ := box5z Ka.out
              have lta := lt_of_block Ka.out
              go_wp2_with fail
              refine (CT2.out wr q d HX.out HBM.out).mono ?_
              intro w6 hE
              replace hE : Ext _ w6 := hE
              clear a0 a1 a2 a3 a4 a5 lta
              replace Ka := Lib.hid ((hE.below.block _ (lt_of_block Ka.out)).trans Ka.out)
              replace HX := Lib.hid (Ext.trans HX.out hE)
              clear hE
              obtain ⟨a0, a1, a2, a3, a4, a5⟩ := box5z Ka.out
              have lta := lt_of_block Ka.out
              go_wp2_with fail
              refine (CE.out _ HX.out).mono ?_
              intro w7 hE
              replace hE : Ext _ w7 := hE
              clear a0 a1 a2 a3 a4 a5 lta
              replace Ka := Lib.hid ((hE.below.block _ (lt_of_block Ka.out)).trans Ka.out)
              replace HX := Lib.hid (Ext.trans HX.out hE)
              clear hE
              obtain ⟨a0, a1, a2, a3, a4, a5⟩ := box5z Ka.out
              have lta := lt_of_block Ka.out
              go_wp2_with fail
              refine (CA.out _).mono ?_
              intro w8 hE
              replace hE : Ext _ w8 := hE
              clear a0 a1 a2 a3 a4 a5 lta
              replace Ka := Lib.hid ((hE.below.block _ (lt_of_block Ka.out)).trans Ka.out)
              replace HX := Lib.hid (Ext.trans HX.out hE)
              clear hE
              obtain ⟨a0, a1, a2, a3, a4, a5⟩ := box5z Ka.out
              have lta := lt_of_block Ka.out
              clear a0 a1 a2 a3 a4 a5 lta
              go_wp2
              go_ret
              exact ⟨rfl, HX.out⟩

end Go.Proofs.YtgkalcboklhdgaaDoor

namespace Go.Proofs.YtgkalcboklhdgaaDoor.exprTypes
open Go.ChangeShapes Go.WideShapes Go.ChangeAt Go.RowKit
open Go.ChangeMaps (open_string shut_string)
set_option linter.unusedVariables false

theorem own : ownKnob Tryd.prog.godebug = none := by kernel_rfl
theorem laidOut : laidOutB Tryd.prog = true := by kernel_rfl
/-- the cells of a datum of plain values -/
def flat : Nat → DataW Unit → List Value
  | _, .lit l => [l.value]
  | n + 1, .agg ps => ps.flatMap (flat n)
  | _, _ => []
/-- a world for the witness: the settled one, the listed tables holding what the text lays -/
def lay (d : DataW Unit) : Obj → Obj
  | .cells _ t frozen => .cells (flat 4 d).toArray t frozen
  | o => o
noncomputable def laidWorld (os : Os) : World :=
  { World.holding Tryd.prog os ⟨#[], #[], []⟩ with heap := ((((World.holding Tryd.prog os ⟨#[], #[], []⟩).heap.modify 1 (lay Rows.laid_math_bits_deBruijn32tab)).modify 2 (lay Rows.laid_math_bits_deBruijn64tab)).modify 0 (lay Rows.laid_internal_strconv_uint64pow10)) }
theorem laid_met (os : Os) : laidMet Tryd.prog Rows.exprTypesRow.laid ((laidWorld os).forCall (fun _ _ => 0) ⟨#[], #[.agg #[.int .i64 0, .int .i64 0, .string ByteArray.empty, .int .i64 0, .slice none 0 0], .slice none 0 0], []⟩).memory :=
  laidMet_of_run' 8 (by kernel_rfl) (by kernel_rfl)
theorem reads (os : Os) {H : Type} (enc : TypeId × Value → H) : ∃ places, DataW.whole enc Tryd.prog ((laidWorld os).forCall (fun _ _ => 0) ⟨#[], #[.agg #[.int .i64 0, .int .i64 0, .string ByteArray.empty, .int .i64 0, .slice none 0 0], .slice none 0 0], []⟩).memory Tryd.f4.params.toList Rows.exprTypesSpec.vars false (#[.agg #[.int .i64 0, .int .i64 0, .string ByteArray.empty, .int .i64 0, .slice none 0 0], .slice none 0 0] : Array Value).toList 8 = some ([.agg [.lit (.int .i64 0), .lit (.int .i64 0), .lit (.string []), .lit (.int .i64 0), .nil], .nil], [], places) :=
  ⟨[], by kernel_rfl⟩
set_option maxRecDepth 100000 in
theorem contract (H : Type) (enc : TypeId × Value → H) (W : World) (base : Nat) (args : Array Value) (ds gs : List (DataW H)) (before : List MemPlace)
    (hval0 : ∀ (j : Nat) t v, Tryd.f4.params[j]? = some t → args[j]? = some v → Value.okWide Tryd.prog W .any base t v)
    (hW : DataW.Whole enc Tryd.prog Tryd.f4.params.toList Rows.exprTypesSpec.vars false W args.toList ds gs before) (hz : (DataW.weightsEach Tryd.prog (Tryd.f4.params.toList ++ (OpenSpec.ofChange Rows.exprTypesSpec).bare.plain.varTypes Tryd.prog) (ds ++ gs)).all (· ≤ reachBytes) = true) :
    Calls Tryd.prog 4 args W fun e W' => ∃ v, e = .returned v ∧ Rows.exprTypesSpec.post enc Tryd.prog Tryd.f4 false true false false W args v W' := by
  have hval := hval0
  have hW' := hW
  obtain ⟨p, q, hA0, hV, rfl, hfz, hnd⟩ := hW
  have hA : DataW.TrodAll enc Tryd.prog W 0 (fun _ => true) true Tryd.f4.params.toList args.toList ds p := hA0
  rw [Tryd.params4] at hA hval
  obtain ⟨v0, vs0, d0, ds0, p0, q0, hargs, rfl, rfl, h0, r0⟩ := trodAll_cons hA
  obtain ⟨v1, vs1, d1, ds1, p1, q1, rfl, rfl, rfl, h1, r1⟩ := trodAll_cons r0
  obtain ⟨rfl, rfl, rfl⟩ := trodAll_nil r1
  obtain rfl : args = #[v0, v1] := by cases args; simp_all
  obtain ⟨rfl, rfl⟩ := trodVars_none hV
  have k0 := h0
  have lt0 : ∀ x ∈ p0, x.block < W.heap.size := by obtain ⟨m, hm⟩ := k0; exact DataW.trod_lt m _ _ _ hm
  obtain ⟨e0, pe0, ce0, rfl, w0⟩ := open_ex (hval 0 24 v0 rfl rfl) h0 (fun n hn => by have := List.all_eq_true.1 hz n (DataW.weights_mem_each (j := 0) rfl rfl n hn); simpa using this)
  obtain ⟨a1, len1, cap1, rfl⟩ := okWide_slice Tryd.underlying25 (hval 1 25 v1 rfl rfl)
  have k1 := h1
  have lt1 : ∀ x ∈ p1, x.block < W.heap.size := by obtain ⟨m, hm⟩ := k1; exact DataW.trod_lt m _ _ _ hm
  obtain ⟨bs1, rfl, w1⟩ := open_bns h1 (fun n hn => by have := List.all_eq_true.1 hz n (DataW.weights_mem_each (j := 1) rfl rfl n hn); simpa using this)
  clear hA0 hval0 hz
  refine (exprTypes_walk e0 pe0 ce0 bs1 a1 cap1 W w0 w1).mono fun W' bel => ?_
  exact ⟨_, rfl, _, _, _, [], _, [], hW', trodAll_mk1 (shut_bool Tryd.underlying4 _), (trodAll_cons_mk (Below.trod laidOut (by kernel_rfl) (of_decide_eq_true (by kernel_rfl)) k0 bel lt0) (trodAll_cons_mk (Below.trod laidOut (by kernel_rfl) (of_decide_eq_true (by kernel_rfl)) k1 bel lt1) trodAll_mk0)), rfl, bel.frame _, fun h => by cases h⟩

set_option maxRecDepth 100000 in
theorem lifted (os : Os) (started : os.Started) (H : Type) (enc : TypeId × Value → H) (F : Stop.Interp) :
    ReturnsInHanded {} Tryd.checked os 4 .any ((OpenSpec.ofChange Rows.exprTypesSpec).preRow enc Tryd.prog Tryd.f4 Rows.exprTypesRow.domain false Rows.exprTypesRow.laid) (((OpenSpec.ofChange Rows.exprTypesSpec).at F).post enc Tryd.prog Tryd.f4 false true false false) := by
  obtain ⟨places, hx⟩ := reads os enc
  refine returnsInHanded_of_row (C := Tryd.checked) (s := OpenSpec.ofChange Rows.exprTypesSpec) own started (by kernel_rfl) Tryd.func4
    (witness_row_at (enc := enc) (C := Tryd.checked) false (laidWorld os) #[.agg #[.int .i64 0, .int .i64 0, .string ByteArray.empty, .int .i64 0, .slice none 0 0], .slice none 0 0] rfl (by kernel_rfl) (by kernel_rfl) (by kernel_rfl)
      (OpenSpec.preRow_of_cond 8 hx (by kernel_rfl) (fun k hk => by cases hk) (by kernel_rfl) (laid_met os))) ?_
  intro W base args ds gs before hval hW _ _ hz _ hsh _
  exact contract H enc W base args ds gs before hval hW hz

theorem said : Rows.ExprTypesSaid :=
  OpenClaim.holds_of_cond 4 Tryd.f4 rfl rfl rfl rfl rfl rfl rfl ⟨rfl, rfl, rfl, rfl, rfl⟩ rfl rfl rfl rfl rfl (by kernel_rfl) Tryd.func4 (by kernel_rfl)
    (of_decide_eq_true (by kernel_rfl)) (by unfold Func.isWrapper; first | (rw [if_pos (by decide +kernel)]; kernel_rfl) | (rw [if_neg (by decide +kernel)]; exact ⟨rfl, rfl⟩))
    (fun os started H enc _ F => by rw [OpenClaim.pre_eq_preRow]; exact lifted os started H enc F)

theorem plain (f : FuncId) (fn : Func) (hf : Tryd.pinned.checked.prog.funcNamed "nursery/nurserylaw09.ExprTypes" = some f) (hfn : Tryd.pinned.checked.prog.funcs[f]? = some fn) :
    false = Tryd.pinned.checked.prog.looks [] ∧ ∀ (j : Nat) t, fn.params[j]? = some t → Tryd.pinned.checked.prog.wantsStandIn t = false := by
  obtain rfl : f = 4 := Option.some.inj ((show Tryd.prog.funcNamed "nursery/nurserylaw09.ExprTypes" = some 4 by kernel_rfl).symm.trans hf) |>.symm
  obtain rfl : fn = Tryd.f4 := (Option.some.inj (Tryd.func4.symm.trans hfn)).symm
  refine ⟨by kernel_rfl, fun j t ht => ?_⟩
  rw [Tryd.params4] at ht
  rcases j with _ | _ | j
  · obtain rfl : t = 24 := by simpa using ht.symm
    exact (show Tryd.prog.wantsStandIn 24 = false by kernel_rfl)
  · obtain rfl : t = 25 := by simpa using ht.symm
    exact (show Tryd.prog.wantsStandIn 25 = false by kernel_rfl)
  · simp at ht

/-- the statement -/
theorem proved : Rows.ExprTypesCardSaid :=
  Claim7.holds_tied_plain_at .later [] _ _ _ _ said (fun _ h => by cases h) (by kernel_rfl) (fun _ h => by cases h) exprTypes_row_tie rfl ⟨rfl, rfl⟩ (by kernel_rfl) rfl plain (by kernel_rfl)
#print axioms proved
end Go.Proofs.YtgkalcboklhdgaaDoor.exprTypes

