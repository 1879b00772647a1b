/- The statement LinearizeSearchCardSaid: for every input the law returns true, and the arguments read as before; the tables of the library that it lists are tied to the text. The frame round the walk of the law. (With it: Plain: the searches of the reference.; The reference's follow. Printed by mk_lntb.py.; The reference's search. Printed by mk_lntc.py.; The reference's count. Printed by mk_lntc.py.; The reference's longest. Printed by mk_lntc.py.; The reference's Search and Count. Printed by mk_lntf.py.; The reference's Explain. Printed by mk_lntf.py.; LinearizeSearch: Search, Count and Explain return the results of the reference. Printed by mk_lawlsch.py.) -/
import Derived.Stop.LaidErr
import Derived.Test.YtmbkjccckmlacaaDoorCards
import Derived.Test.YtmbkjccckmlacaaDoorTie
import Derived.WalkKit
import Derived.ProofKit
import Derived.OpenShut
import Derived.ShutString
import Derived.ChangeOld
import Derived.Below
import Derived.Deep.DeepHandedRow
import Derived.Lib.LaidTab
import Derived.Shelf.Vars
import Derived.Test.YtmbkjccckmlacaaDoorPart7
import Derived.Test.YtmbkjccckmlacaaDoorHandR2
import Derived.Test.YtmbkjccckmlacaaDoorHandR1

namespace Go.Proofs.YtmbkjccckmlacaaDoor
set_option linter.unusedVariables false
set_option linter.unusedSimpArgs false

/-- what search finds from a node on -/
def serN (k z : Int) (l : List Cl) (n : Nd) : List Nat := serF k z l (lft l n + 1) n
theorem serF_fuel {k z : Int} {l : List Cl} : ∀ (f : Nat) (n : Nd), lft l n < f → serF k z l f n = serN k z l n
  | 0, n, h => by omega
  | f + 1, n, h => by
    unfold serN
    rw [serF, serF]
    by_cases hc : cmpl l n = true
    · rw [if_pos hc, if_pos hc]
    · rw [if_neg hc, if_neg hc]
      cases hp : (nxs k z l n).find? (fun p => decide (0 < cnt k z l p.2)) with
      | none => rfl
      | some p =>
        have e := nxt_lft (mem_nxs.1 (List.mem_of_find?_eq_some hp)).2
        show p.1 :: serF k z l f p.2 = p.1 :: serF k z l (lft l n) p.2
        rw [serF_fuel f p.2 (by omega), e]
        rfl
theorem serN_full {k z : Int} {l : List Cl} {n : Nd} (hc : cmpl l n = true) : serN k z l n = [] := ser_done hc
theorem serN_step {k z : Int} {l : List Cl} {n m : Nd} {j : Nat} (hc : cmpl l n = false) (hj : j < l.length) (hx : nxt k z l n j = some m) (hp : 0 < cnt k z l m) (hb : ∀ i, i < j → ∀ m', nxt k z l n i = some m' → cnt k z l m' = 0) : serN k z l n = j :: serN k z l m := by
  unfold serN
  rw [ser_step hc hj hx hp hb, nxt_lft hx]
theorem cnt_full {k z : Int} {l : List Cl} {n : Nd} (hc : cmpl l n = true) : cnt k z l n = 1 := by rw [cnt_eq, if_pos hc]
theorem cnt_next {k z : Int} {l : List Cl} {n m : Nd} {j : Nat} (hx : nxt k z l n j = some m) (hp : 0 < cnt k z l m) : 0 < cnt k z l n := by
  obtain ⟨o, m', h1, h2⟩ := cnt_run.1 hp
  exact cnt_run.2 ⟨j :: o, m', runO_cons hx h1, h2⟩
theorem serR_N {k z : Int} {l : List Cl} : serR k z l = if cnt k z l (beg0 k) = 0 then ([], false) else (serN k z l (beg0 k), true) := by
  unfold serR
  rw [serF_fuel _ _ (by have := lft_le l (beg0 k); omega)]

theorem cntP_one {k z : Int} {l : List Cl} {n : Nd} {j : Nat} : cntP k z l n j ≤ cntP k z l n (j + 1) := by
  have h := cntP_le k z l n j
  rw [cntP_succ]
  split
  · exact Nat.le_min.2 ⟨by omega, h⟩
  · exact Nat.le_refl _
theorem cntP_mono {k z : Int} {l : List Cl} {n : Nd} {i j : Nat} (h : i ≤ j) : cntP k z l n i ≤ cntP k z l n j := by
  induction j with
  | zero => rw [show i = 0 by omega]; exact Nat.le_refl _
  | succ j ih =>
    by_cases hi : i ≤ j
    · exact Nat.le_trans (ih hi) cntP_one
    · rw [show i = j + 1 by omega]; exact Nat.le_refl _
theorem lonP_one {k z : Int} {l : List Cl} {n : Nd} {j : Nat} : lonP k z l n j ≤ lonP k z l n (j + 1) := by
  rw [lonP_succ]
  split
  · exact Nat.le_max_left _ _
  · exact Nat.le_refl _
theorem lonP_lt {k z : Int} {l : List Cl} {n m : Nd} {i : Nat} (hx : nxt k z l n i = some m) : ∀ {j : Nat}, i < j → lon k z l m + 1 ≤ lonP k z l n j
  | 0, h => by omega
  | j + 1, h => by
    by_cases hi : i < j
    · exact Nat.le_trans (lonP_lt hx hi) lonP_one
    · obtain rfl : i = j := by omega
      rw [lonP_succ, hx]
      have := Nat.le_max_right (lonP k z l n i) (1 + lon k z l m)
      show _ ≤ max (lonP k z l n i) (1 + lon k z l m)
      omega
/-- what longest finds from a node on -/
def expN (k z : Int) (l : List Cl) (n : Nd) : List Nat := (expF k z l (lon k z l n) n).1
/-- the best among the calls below j -/
def LB (k z : Int) (l : List Cl) (n : Nd) (j : Nat) (B : List Nat) : Prop := (lonP k z l n j = 0 ∧ B = []) ∨
  ∃ q m, q < j ∧ nxt k z l n q = some m ∧ lon k z l m + 1 = lonP k z l n j ∧ (∀ i, i < q → ∀ m', nxt k z l n i = some m' → lon k z l m' + 1 < lonP k z l n j) ∧ B = q :: expN k z l m
theorem LB.none {k z : Int} {l : List Cl} {n : Nd} {j : Nat} {B : List Nat} (h : LB k z l n j B) (hx : nxt k z l n j = none) : LB k z l n (j + 1) B := by
  have e : lonP k z l n (j + 1) = lonP k z l n j := by rw [lonP_succ, hx]
  rcases h with ⟨h1, h2⟩ | ⟨q, m, h1, h2, h3, h4, h5⟩
  · exact .inl ⟨e ▸ h1, h2⟩
  · exact .inr ⟨q, m, by omega, h2, by rw [e]; exact h3, fun i hi m' hm => by rw [e]; exact h4 i hi m' hm, h5⟩
theorem LB.keep {k z : Int} {l : List Cl} {n m : Nd} {j : Nat} {B : List Nat} (h : LB k z l n j B) (hx : nxt k z l n j = some m) (hle : lon k z l m + 1 ≤ lonP k z l n j) : LB k z l n (j + 1) B := by
  have e : lonP k z l n (j + 1) = lonP k z l n j := by
    rw [lonP_succ, hx]
    show max (lonP k z l n j) (1 + lon k z l m) = _
    omega
  rcases h with ⟨h1, h2⟩ | ⟨q, m, h1, h2, h3, h4, h5⟩
  · omega
  · exact .inr ⟨q, m, by omega, h2, by rw [e]; exact h3, fun i hi m' hm => by rw [e]; exact h4 i hi m' hm, h5⟩
theorem LB.new {k z : Int} {l : List Cl} {n m : Nd} {j : Nat} (hx : nxt k z l n j = some m) (hlt : lonP k z l n j < lon k z l m + 1) : LB k z l n (j + 1) (j :: expN k z l m) := by
  have e : lonP k z l n (j + 1) = lon k z l m + 1 := by
    rw [lonP_succ, hx]
    show max (lonP k z l n j) (1 + lon k z l m) = _
    omega
  exact .inr ⟨j, m, by omega, hx, e.symm, fun i hi m' hm => by have := lonP_lt hm hi; omega, rfl⟩
theorem LB.done {k z : Int} {l : List Cl} {n : Nd} {B : List Nat} (h : LB k z l n l.length B) : B = expN k z l n := by
  unfold LB at h
  rw [← lon_P] at h
  rcases h with ⟨h1, rfl⟩ | ⟨q, m, h1, h2, h3, h4, rfl⟩
  · unfold expN; rw [h1]; rfl
  · unfold expN
    rw [← h3, exp_step h1 h2 rfl (fun i hi m' hm => by have := h4 i hi m' hm; omega)]
theorem LB_ex {k z : Int} {l : List Cl} (n : Nd) : ∀ j, ∃ B, LB k z l n j B
  | 0 => ⟨[], .inl ⟨rfl, rfl⟩⟩
  | j + 1 => by
    obtain ⟨B, hB⟩ := LB_ex (k := k) (z := z) (l := l) n j
    cases hx : nxt k z l n j with
    | none => exact ⟨B, hB.none hx⟩
    | some m =>
      by_cases h : lon k z l m + 1 ≤ lonP k z l n j
      · exact ⟨B, hB.keep hx h⟩
      · exact ⟨_, LB.new hx (by omega)⟩
theorem expN_len0 {k z : Int} {l : List Cl} : ∀ (f : Nat) (n : Nd), lft l n < f → (expN k z l n).length = lon k z l n
  | 0, n, h => by omega
  | f + 1, n, h => by
    obtain ⟨B, hB⟩ := LB_ex (k := k) (z := z) (l := l) n l.length
    rw [← hB.done, lon_P]
    rcases hB with ⟨h1, rfl⟩ | ⟨q, m, h1, h2, h3, h4, rfl⟩
    · rw [h1]; rfl
    · rw [List.length_cons, expN_len0 f m (by have := nxt_lft h2; omega), h3]
theorem expN_len {k z : Int} {l : List Cl} {n : Nd} : (expN k z l n).length = lon k z l n := expN_len0 _ n (Nat.lt_succ_self _)
theorem LB.len {k z : Int} {l : List Cl} {n : Nd} {j : Nat} {B : List Nat} (h : LB k z l n j B) : B.length = lonP k z l n j := by
  rcases h with ⟨h1, rfl⟩ | ⟨q, m, h1, h2, h3, h4, rfl⟩
  · rw [h1]; rfl
  · rw [List.length_cons, expN_len, h3]

/-- a node's set is that of an order's members -/
def OnP (l : List Cl) (n : Nd) (o : List Int) : Prop := ∀ i, i < l.length → n.1.testBit i = decide ((i : Int) ∈ o)
theorem OnP.beg {l : List Cl} {k : Int} : OnP l (beg0 k) [] := fun i hi => by simp [beg0]
theorem OnP.step {k z : Int} {l : List Cl} {n m : Nd} {o : List Int} {q : Nat} (h : OnP l n o) (hx : nxt k z l n q = some m) : OnP l m (o ++ [(q : Int)]) := fun i hi => by
  obtain ⟨x, h1, h2, h3, h4, h5, rfl⟩ := nxt_some hx
  show (n.1 ||| 2 ^ q).testBit i = _
  rw [Nat.testBit_or, h i hi, Nat.testBit_two_pow]
  by_cases hq : q = i
  · subst hq; simp
  · have : ¬ (i : Int) = (q : Int) := by omega
    simp [hq, this]
theorem OnP.full {l : List Cl} {n : Nd} {o : List Int} (h : OnP l n o) : fullR l o = cmpl l n := by
  rw [full_set (s := n.1) (q := n.2) h]
theorem nxt_has {k z : Int} {l : List Cl} {n : Nd} {q : Nat} (h : n.1.testBit q = true) : nxt k z l n q = none := by
  unfold nxt
  split
  · rfl
  · rw [if_pos (.inl h)]
theorem nxt_nf {k z : Int} {l : List Cl} {n : Nd} {q : Nat} (h : subM (bef l q) n.1 l.length = false) : nxt k z l n q = none := by
  unfold nxt
  split
  · rfl
  · rw [if_pos (.inr h)]
theorem nxt_ev {k z : Int} {l : List Cl} {n : Nd} {q : Nat} (hq : q < l.length) (h : n.1.testBit q = false) (h2 : subM (bef l q) n.1 l.length = true) :
    nxt k z l n q = if (apM k z n.2 l[q].meth l[q].arg).2.2 ≠ 0 ∨ (l[q].en ≠ -1 ∧ (apM k z n.2 l[q].meth l[q].arg).2.1 ≠ l[q].res) then none else some (n.1 ||| 2 ^ q, (apM k z n.2 l[q].meth l[q].arg).1) := by
  unfold nxt
  rw [List.getElem?_eq_getElem hq]
  show (if n.1.testBit q = true ∨ subM (bef l q) n.1 l.length = false then none else _) = _
  rw [if_neg (by simp [h, h2])]
theorem gd_next {k z : Int} {l : List Cl} {n m : Nd} {q : Nat} (hk : 1 ≤ k) (hk6 : k ≤ 6) (hs : stR k z n.2 = true) (hx : nxt k z l n q = some m) : stR k z m.2 = true := by
  obtain ⟨x, h1, h2, h3, h4, h5, rfl⟩ := nxt_some hx
  exact stR_ap hk hk6 hs h4
/-- the first call that is missing -/
theorem ixr_at {l : List Cl} {n : Nd} {i : Nat} (hi : i < l.length) (hx : ((must l).testBit i && !n.1.testBit i) = true) (hb : ∀ j, j < i → ((must l).testBit j && !n.1.testBit j) = false) : ixR l n = i := by
  unfold ixR
  rw [List.find?_range_eq_some.2 ⟨hx, List.mem_range.2 hi, fun j hj => by rw [hb j hj]; rfl⟩]
theorem ixr_no {l : List Cl} {n : Nd} (hb : ∀ j, j < l.length → ((must l).testBit j && !n.1.testBit j) = false) : ixR l n = -1 := by
  unfold ixR
  rw [List.find?_range_eq_none.2 (fun j hj => by rw [hb j hj]; rfl)]
end Go.Proofs.YtmbkjccckmlacaaDoor

namespace Go.Proofs.YtmbkjccckmlacaaDoor
open Go.RowKit
set_option linter.unusedVariables false
set_option linter.unusedSimpArgs false

/-- what follow gives -/
def FoP (k z : Int) (l : List Cl) (n : Nd) (q : Nat) (W : World) (e : Ending) (W' : World) : Prop := ∃ (a : Option Addr) (L : List Int) (c : Nat), e = .returned (.tuple #[.slice a L.length c, .bool (nxt k z l n q).isSome]) ∧ IntsAt W' a L ∧ L.length ≤ c ∧ Ext W W' ∧ ∀ m, nxt k z l n q = some m → m.2 = L
set_option maxRecDepth 100000 in
set_option maxHeartbeats 8000000 in
theorem refFollow_any (k z : Int) (l : List Cl) (n : Nd) (o : List Int) (q : Nat) (a b sx : Option Addr) (c d cs : Nat) (w : World) (hm : mdE k z = 0) (hq : q < l.length) (hl : l.length ≤ 12) (ho : o.length ≤ 1000) (hO : OnP l n o) (hst : stR k z n.2 = true) (h : HsAt w a l) (hI : IntsAt w b o) (hS : IntsAt w sx n.2) (hsc : n.2.length ≤ cs) :
    Calls Tryd.prog 64 #[.agg #[.int .i64 k, .int .i64 z], .slice a l.length c, .slice b o.length d, .slice sx n.2.length cs, .int .i64 (q : Int)] w (FoP k z l n q w) := by
  unfold FoP
  have HX := Lib.hid (ext_allocN w (.cells #[.int .i64 k, .int .i64 z] 23))
  have HMD := Lib.hid (mdCells w k z)
  obtain ⟨wk, hwk⟩ : ∃ W, W = w.alloc (.cells #[.int .i64 k, .int .i64 z] 23) := ⟨_, rfl⟩
  have hwk' := hwk.symm
  rw [hwk'] at HX HMD
  clear hwk
  have KH := Lib.hid (fun W (hW : Ext wk W) => show Gives Tryd.prog 44 #[.slice b o.length d, .int .i64 (q : Int)] W (.bool (n.1.testBit q)) from by rw [hO q hq]; exact refHas_any o (q : Int) b d W (by omega) (hI.ext (Ext.trans HX.out hW)))
  have KF := Lib.hid (fun W (hW : Ext wk W) => show Gives Tryd.prog 47 #[.slice a l.length c, .slice b o.length d, .int .i64 (q : Int)] W (.bool (subM (bef l q) n.1 l.length)) from by rw [← free_set (o := o) hO]; exact refFree_any l o q a b c d W hq (by omega) ho (h.ext (Ext.trans HX.out hW)) (hI.ext (Ext.trans HX.out hW)))
  have KA := Lib.hid (fun W (hW : Ext wk W) => show Calls Tryd.prog 24 #[.agg #[.int .i64 k, .int .i64 z], .slice sx n.2.length cs, .int .i64 l[q].meth, .int .i64 l[q].arg] W (ApP W sx n.2 (apM k z n.2 l[q].meth l[q].arg)) from by
    have h1 := refApply_any k z n.2 l[q].meth l[q].arg sx cs W (by have := st_len hst; omega) (hS.ext (Ext.trans HX.out hW)) hsc
    have h2 : apR k z n.2 l[q].meth l[q].arg = apM k z n.2 l[q].meth l[q].arg := by
      unfold apR
      rw [if_neg (by rw [hm]; simp), if_neg (by rw [hst]; simp)]
    rw [h2] at h1
    exact h1)
  have HB := Lib.hid (fun (h : n.1.testBit q = true) => nxt_has (k := k) (z := z) (l := l) h)
  have HF := Lib.hid (fun (h : subM (bef l q) n.1 l.length = false) => nxt_nf (k := k) (z := z) h)
  have HV := Lib.hid (fun h h2 => nxt_ev (k := k) (z := z) (n := n) hq h h2)
  have HC := Lib.hid (fun W (hW : Ext wk W) => (h.ext (Ext.trans HX.out hW)) q hq)
  obtain ⟨ba, oa, hab, hx0⟩ := h q hq
  subst hab
  have HC := Lib.hid (fun W (hW : Ext wk W) => show Cl.cells W ba (oa + q * 6) l[q] from by
    obtain ⟨b', o', e', hc'⟩ := HC.out W hW
    cases e'
    exact hc')
  have hq0 : (0 : Int) ≤ (q : Int) := by omega
  clear hO hst h hI hS hm hx0
  generalize hNx : nxt k z l n q = Nx at *
  generalize l[q] = x at *
  obtain ⟨tk, me, ar, re, be, en⟩ := x
  unfold Cl.cells at HC
  dsimp only at *
  generalize subM (bef l q) n.1 l.length = sb at *
  generalize n.1.testBit q = tb at *
  obtain ⟨S, L⟩ := n
  dsimp only at *
  generalize apM k z L me ar = Z at *
  obtain ⟨L1, rs, er⟩ := Z
  dsimp only at *
  generalize l.length = nl at *
  generalize o.length = lo at *
  have hq1 : (q : Int) < (nl : Int) := by omega
  obtain ⟨m0, m1⟩ := HMD.out wk (Below.refl _ _)
  clear hNx
  cases tb with
  | true =>
    have e := HB.out rfl
    subst e
    clear HB HF HV
    go_enter Tryd.func64, Tryd.ntmps64
    go_wp2_with fail
    try rw [hwk']
    refine (KH.out wk (Below.refl _ _)).mono ?_
    intro w5 hE5
    have HE5 := Lib.hid (show Ext wk w5 from hE5)
    clear hE5
    go_wp2
    go_ret2
    exact ⟨none, [], 0, rfl, IntsAt.nil, Nat.le_refl _, Ext.trans HX.out HE5.out, fun m h => by cases h⟩
  | false =>
    cases sb with
    | false =>
      have e := HF.out rfl
      subst e
      clear HB HF HV
      go_enter Tryd.func64, Tryd.ntmps64
      go_wp2_with fail
      try rw [hwk']
      refine (KH.out wk (Below.refl _ _)).mono ?_
      intro w5 hE5
      have HE5 := Lib.hid (show Ext wk w5 from hE5)
      clear hE5
      go_wp2_with fail
      refine (KF.out w5 HE5.out).mono ?_
      intro w6 hE6
      have HE6 := Lib.hid (Ext.trans HE5.out hE6)
      clear hE6
      go_wp2
      go_ret2
      exact ⟨none, [], 0, rfl, IntsAt.nil, Nat.le_refl _, Ext.trans HX.out HE6.out, fun m h => by cases h⟩
    | true =>
      have HN := Lib.hid (HV.out rfl rfl)
      clear HB HF HV
      go_enter Tryd.func64, Tryd.ntmps64
      go_wp2_with fail
      try rw [hwk']
      refine (KH.out wk (Below.refl _ _)).mono ?_
      intro w5 hE5
      have HE5 := Lib.hid (show Ext wk w5 from hE5)
      clear hE5
      go_wp2_with fail
      refine (KF.out w5 HE5.out).mono ?_
      intro w6 hE6
      have HE6 := Lib.hid (Ext.trans HE5.out hE6)
      clear hE6 m0 m1
      go_wp2_with fail
      refine wp_region_tail (l1 := [_, _, _, _, _, _, _, _, _, _, _, _, _, _, _, _, _, _, _]) (l2 := [_]) (by kernel_rfl) Ext (fun W => Below.refl _ W) (fun W => show Below W.heap.size W { W with drawn := W.drawn + 1 } from ⟨rfl, rfl, rfl, Nat.le_refl _, fun _ _ => rfl⟩) Ext.trans
        (fun i s W => match i with
          | 0 => s 0 = .agg #[.int .i64 k, .int .i64 z]
          | 1 => s 1 = .slice sx L.length cs
          | 2 => s 2 = .slice (some ⟨ba, oa, none⟩) nl c
          | 3 => s 3 = .int .i64 (q : Int)
          | 4 => s 4 = .pointer (some ⟨ba, oa + q * 6, none⟩)
          | 5 => s 5 = .pointer (some ⟨ba, oa + q * 6 + 1, none⟩)
          | 6 => s 6 = .int .i64 me
          | 7 => s 7 = .slice (some ⟨ba, oa, none⟩) nl c
          | 8 => s 8 = .int .i64 (q : Int)
          | 9 => s 9 = .pointer (some ⟨ba, oa + q * 6, none⟩)
          | 10 => s 10 = .pointer (some ⟨ba, oa + q * 6 + 2, none⟩)
          | 11 => s 11 = .int .i64 ar
          | 12 => ∃ a1 cc1, s 12 = .tuple #[.slice a1 L1.length cc1, .int .i64 rs, .int .i64 er] ∧ IntsAt W a1 L1 ∧ L1.length ≤ cc1
          | 13 => ∃ a1 cc1, s 13 = .tuple #[.slice a1 L1.length cc1, .int .i64 rs, .int .i64 er] ∧ IntsAt W a1 L1 ∧ L1.length ≤ cc1
          | 14 => ∃ a1 cc1, s 14 = .slice a1 L1.length cc1 ∧ IntsAt W a1 L1 ∧ L1.length ≤ cc1
          | 15 => s 15 = .int .i64 rs
          | 16 => s 16 = .int .i64 er
          | 17 => ∃ a1 cc1, s 17 = .slice a1 L1.length cc1 ∧ IntsAt W a1 L1 ∧ L1.length ≤ cc1
          | 18 => s 18 = .int .i64 rs
          | _ => True)
        (fun i => [i])
        (by
          intro i s s' W W' h hs hE
          have hs := hs i (by simp)
          match i, h, hs with
          | 0, h, hs => exact hs.trans h
          | 1, h, hs => exact hs.trans h
          | 2, h, hs => exact hs.trans h
          | 3, h, hs => exact hs.trans h
          | 4, h, hs => exact hs.trans h
          | 5, h, hs => exact hs.trans h
          | 6, h, hs => exact hs.trans h
          | 7, h, hs => exact hs.trans h
          | 8, h, hs => exact hs.trans h
          | 9, h, hs => exact hs.trans h
          | 10, h, hs => exact hs.trans h
          | 11, h, hs => exact hs.trans h
          | 12, ⟨a1, cc1, h, h1, h2⟩, hs => exact ⟨a1, cc1, hs.trans h, h1.ext hE, h2⟩
          | 13, ⟨a1, cc1, h, h1, h2⟩, hs => exact ⟨a1, cc1, hs.trans h, h1.ext hE, h2⟩
          | 14, ⟨a1, cc1, h, h1, h2⟩, hs => exact ⟨a1, cc1, hs.trans h, h1.ext hE, h2⟩
          | 15, h, hs => exact hs.trans h
          | 16, h, hs => exact hs.trans h
          | 17, ⟨a1, cc1, h, h1, h2⟩, hs => exact ⟨a1, cc1, hs.trans h, h1.ext hE, h2⟩
          | 18, h, hs => exact hs.trans h
          | i + 19, h, hs => exact trivial)
        (by kernel_rfl) (by kernel_rfl) (by kernel_rfl) 62 rfl (by kernel_rfl) (by kernel_rfl) ?_ ?_
      · intro i op ho a' W hA
        obtain ⟨m0, m1⟩ := HMD.out W (Ext.trans HE6.out hA.rel)
        obtain ⟨x0, x1, x2, x3, x4, x5⟩ := HC.out W (Ext.trans HE6.out hA.rel)
        match i, ho with
        | 0, ho =>
          obtain rfl := Option.some.inj ho
          have e1 : a'.eval (.tmp 5) = .pointer (some ⟨w.heap.size, 0, none⟩) := hA.keep 5 (by kernel_rfl)
          refine GoesG.value (.agg #[.int .i64 k, .int .i64 z]) rfl ?_ (Below.refl _ _) (fun s h1 h2 => h1 rfl)
          simp only [execOp, e1]
          simp [go_sem, m0, m1, x1, x2, hq0, hq1]
        | 1, ho =>
          obtain rfl := Option.some.inj ho
          have e1 : a'.eval (.tmp 3) = .slice sx L.length cs := hA.keep 3 (by kernel_rfl)
          refine GoesG.value (.slice sx L.length cs) rfl ?_ (Below.refl _ _) (fun s h1 h2 => h1 rfl)
          simp only [execOp, e1]
          simp [go_sem, m0, m1, x1, x2, hq0, hq1]
        | 2, ho =>
          obtain rfl := Option.some.inj ho
          have e1 : a'.eval (.tmp 1) = .slice (some ⟨ba, oa, none⟩) nl c := hA.keep 1 (by kernel_rfl)
          refine GoesG.value (.slice (some ⟨ba, oa, none⟩) nl c) rfl ?_ (Below.refl _ _) (fun s h1 h2 => h1 rfl)
          simp only [execOp, e1]
          simp [go_sem, m0, m1, x1, x2, hq0, hq1]
        | 3, ho =>
          obtain rfl := Option.some.inj ho
          have e1 : a'.eval (.tmp 4) = .int .i64 (q : Int) := hA.keep 4 (by kernel_rfl)
          refine GoesG.value (.int .i64 (q : Int)) rfl ?_ (Below.refl _ _) (fun s h1 h2 => h1 rfl)
          simp only [execOp, e1]
          simp [go_sem, m0, m1, x1, x2, hq0, hq1]
        | 4, ho =>
          obtain rfl := Option.some.inj ho
          have e1 : a'.eval (.tmp 28) = .slice (some ⟨ba, oa, none⟩) nl c := (sv_dst (l := _) rfl).symm.trans (hA.new 2 (by decide) (by kernel_rfl))
          have e2 : a'.eval (.tmp 29) = .int .i64 (q : Int) := (sv_dst (l := _) rfl).symm.trans (hA.new 3 (by decide) (by kernel_rfl))
          refine GoesG.value (.pointer (some ⟨ba, oa + q * 6, none⟩)) rfl ?_ (Below.refl _ _) (fun s h1 h2 => h1 rfl)
          simp only [execOp, e1, e2]
          simp [go_sem, m0, m1, x1, x2, hq0, hq1]
        | 5, ho =>
          obtain rfl := Option.some.inj ho
          have e1 : a'.eval (.tmp 30) = .pointer (some ⟨ba, oa + q * 6, none⟩) := (sv_dst (l := _) rfl).symm.trans (hA.new 4 (by decide) (by kernel_rfl))
          refine GoesG.value (.pointer (some ⟨ba, oa + q * 6 + 1, none⟩)) rfl ?_ (Below.refl _ _) (fun s h1 h2 => h1 rfl)
          simp only [execOp, e1]
          simp [go_sem, m0, m1, x1, x2, hq0, hq1]
        | 6, ho =>
          obtain rfl := Option.some.inj ho
          have e1 : a'.eval (.tmp 31) = .pointer (some ⟨ba, oa + q * 6 + 1, none⟩) := (sv_dst (l := _) rfl).symm.trans (hA.new 5 (by decide) (by kernel_rfl))
          refine GoesG.value (.int .i64 me) rfl ?_ (Below.refl _ _) (fun s h1 h2 => h1 rfl)
          simp only [execOp, e1]
          simp [go_sem, m0, m1, x1, x2, hq0, hq1]
        | 7, ho =>
          obtain rfl := Option.some.inj ho
          have e1 : a'.eval (.tmp 1) = .slice (some ⟨ba, oa, none⟩) nl c := hA.keep 1 (by kernel_rfl)
          refine GoesG.value (.slice (some ⟨ba, oa, none⟩) nl c) rfl ?_ (Below.refl _ _) (fun s h1 h2 => h1 rfl)
          simp only [execOp, e1]
          simp [go_sem, m0, m1, x1, x2, hq0, hq1]
        | 8, ho =>
          obtain rfl := Option.some.inj ho
          have e1 : a'.eval (.tmp 4) = .int .i64 (q : Int) := hA.keep 4 (by kernel_rfl)
          refine GoesG.value (.int .i64 (q : Int)) rfl ?_ (Below.refl _ _) (fun s h1 h2 => h1 rfl)
          simp only [execOp, e1]
          simp [go_sem, m0, m1, x1, x2, hq0, hq1]
        | 9, ho =>
          obtain rfl := Option.some.inj ho
          have e1 : a'.eval (.tmp 33) = .slice (some ⟨ba, oa, none⟩) nl c := (sv_dst (l := _) rfl).symm.trans (hA.new 7 (by decide) (by kernel_rfl))
          have e2 : a'.eval (.tmp 34) = .int .i64 (q : Int) := (sv_dst (l := _) rfl).symm.trans (hA.new 8 (by decide) (by kernel_rfl))
          refine GoesG.value (.pointer (some ⟨ba, oa + q * 6, none⟩)) rfl ?_ (Below.refl _ _) (fun s h1 h2 => h1 rfl)
          simp only [execOp, e1, e2]
          simp [go_sem, m0, m1, x1, x2, hq0, hq1]
        | 10, ho =>
          obtain rfl := Option.some.inj ho
          have e1 : a'.eval (.tmp 35) = .pointer (some ⟨ba, oa + q * 6, none⟩) := (sv_dst (l := _) rfl).symm.trans (hA.new 9 (by decide) (by kernel_rfl))
          refine GoesG.value (.pointer (some ⟨ba, oa + q * 6 + 2, none⟩)) rfl ?_ (Below.refl _ _) (fun s h1 h2 => h1 rfl)
          simp only [execOp, e1]
          simp [go_sem, m0, m1, x1, x2, hq0, hq1]
        | 11, ho =>
          obtain rfl := Option.some.inj ho
          have e1 : a'.eval (.tmp 36) = .pointer (some ⟨ba, oa + q * 6 + 2, none⟩) := (sv_dst (l := _) rfl).symm.trans (hA.new 10 (by decide) (by kernel_rfl))
          refine GoesG.value (.int .i64 ar) rfl ?_ (Below.refl _ _) (fun s h1 h2 => h1 rfl)
          simp only [execOp, e1]
          simp [go_sem, m0, m1, x1, x2, hq0, hq1]
        | 12, ho =>
          obtain rfl := Option.some.inj ho
          have e1 : a'.eval (.tmp 26) = .agg #[.int .i64 k, .int .i64 z] := (sv_dst (l := _) rfl).symm.trans (hA.new 0 (by decide) (by kernel_rfl))
          have e2 : a'.eval (.tmp 27) = .slice sx L.length cs := (sv_dst (l := _) rfl).symm.trans (hA.new 1 (by decide) (by kernel_rfl))
          have e3 : a'.eval (.tmp 32) = .int .i64 me := (sv_dst (l := _) rfl).symm.trans (hA.new 6 (by decide) (by kernel_rfl))
          have e4 : a'.eval (.tmp 37) = .int .i64 ar := (sv_dst (l := _) rfl).symm.trans (hA.new 11 (by decide) (by kernel_rfl))
          refine GoesG.call 24 #[.agg #[.int .i64 k, .int .i64 z], .slice sx L.length cs, .int .i64 me, .int .i64 ar] rfl ?_ ?_
          · have en := enters_fn Tryd.func24 (by kernel_rfl) rfl
            simp [Act.eval] at e1 e2 e3 e4
            simp [execOp, go_sem, e1, e2, e3, e4, en]
          · refine (KA.out W (Ext.trans HE6.out hA.rel)).mono ?_
            rintro e W2 ⟨a1, cc1, rfl, h1, h2, h3, h4⟩
            exact ⟨_, rfl, h3, fun s g1 g2 => ⟨a1, cc1, g1 rfl, h1, h2⟩⟩
        | 13, ho =>
          obtain rfl := Option.some.inj ho
          obtain ⟨a1, cc1, e0, h1, h2⟩ := hA.new 12 (by decide) (by kernel_rfl)
          have e1 : a'.eval (.tmp 38) = .tuple #[.slice a1 L1.length cc1, .int .i64 rs, .int .i64 er] := (sv_dst (l := _) rfl).symm.trans e0
          refine GoesG.value (.tuple #[.slice a1 L1.length cc1, .int .i64 rs, .int .i64 er]) rfl ?_ (Below.refl _ _) (fun s g1 g2 => ⟨a1, cc1, g1 rfl, h1, h2⟩)
          simp only [execOp, e1]
          simp [go_sem]
        | 14, ho =>
          obtain rfl := Option.some.inj ho
          obtain ⟨a1, cc1, e0, h1, h2⟩ := hA.new 13 (by decide) (by kernel_rfl)
          have e1 : a'.eval (.tmp 25) = .tuple #[.slice a1 L1.length cc1, .int .i64 rs, .int .i64 er] := (sv_dst (l := _) rfl).symm.trans e0
          refine GoesG.value (.slice a1 L1.length cc1) rfl ?_ (Below.refl _ _) (fun s g1 g2 => ⟨a1, cc1, g1 rfl, h1, h2⟩)
          simp only [execOp, e1]
          simp [go_sem]
        | 15, ho =>
          obtain rfl := Option.some.inj ho
          obtain ⟨a1, cc1, e0, h1, h2⟩ := hA.new 13 (by decide) (by kernel_rfl)
          have e1 : a'.eval (.tmp 25) = .tuple #[.slice a1 L1.length cc1, .int .i64 rs, .int .i64 er] := (sv_dst (l := _) rfl).symm.trans e0
          refine GoesG.value (.int .i64 rs) rfl ?_ (Below.refl _ _) (fun s g1 g2 => g1 rfl)
          simp only [execOp, e1]
          simp [go_sem]
        | 16, ho =>
          obtain rfl := Option.some.inj ho
          obtain ⟨a1, cc1, e0, h1, h2⟩ := hA.new 13 (by decide) (by kernel_rfl)
          have e1 : a'.eval (.tmp 25) = .tuple #[.slice a1 L1.length cc1, .int .i64 rs, .int .i64 er] := (sv_dst (l := _) rfl).symm.trans e0
          refine GoesG.value (.int .i64 er) rfl ?_ (Below.refl _ _) (fun s g1 g2 => g1 rfl)
          simp only [execOp, e1]
          simp [go_sem]
        | 17, ho =>
          obtain rfl := Option.some.inj ho
          obtain ⟨a1, cc1, e0, h1, h2⟩ := hA.new 14 (by decide) (by kernel_rfl)
          have e1 : a'.eval (.tmp 39) = .slice a1 L1.length cc1 := (sv_dst (l := _) rfl).symm.trans e0
          refine GoesG.value (.slice a1 L1.length cc1) rfl ?_ (Below.refl _ _) (fun s g1 g2 => ⟨a1, cc1, g1 rfl, h1, h2⟩)
          simp only [execOp, e1]
          simp [go_sem]
        | 18, ho =>
          obtain rfl := Option.some.inj ho
          have e1 : a'.eval (.tmp 40) = .int .i64 rs := (sv_dst (l := _) rfl).symm.trans (hA.new 15 (by decide) (by kernel_rfl))
          refine GoesG.value (.int .i64 rs) rfl ?_ (Below.refl _ _) (fun s h1 h2 => h1 rfl)
          simp only [execOp, e1]
          simp [go_sem, m0, m1, x1, x2, hq0, hq1]
        | i + 19, ho => cases ho
      · intro vs w4 hvs hG hΦ
        obtain ⟨y0, y1, y2, y3, y4, y5, y6, y7, y8, y9, y10, y11, y12, y13, y14, y15, y16, y17, y18, rfl⟩ : ∃ y0 y1 y2 y3 y4 y5 y6 y7 y8 y9 y10 y11 y12 y13 y14 y15 y16 y17 y18, vs = y0 :: y1 :: y2 :: y3 :: y4 :: y5 :: y6 :: y7 :: y8 :: y9 :: y10 :: y11 :: y12 :: y13 :: y14 :: y15 :: y16 :: y17 :: y18 :: [] := by
          match vs, hvs with
          | y0 :: y1 :: y2 :: y3 :: y4 :: y5 :: y6 :: y7 :: y8 :: y9 :: y10 :: y11 :: y12 :: y13 :: y14 :: y15 :: y16 :: y17 :: y18 :: [], _ => exact ⟨y0, y1, y2, y3, y4, y5, y6, y7, y8, y9, y10, y11, y12, y13, y14, y15, y16, y17, y18, rfl⟩
        have e0 : y0 = .agg #[.int .i64 k, .int .i64 z] := hΦ 0 (by decide)
        subst e0
        have e1 : y1 = .slice sx L.length cs := hΦ 1 (by decide)
        subst e1
        have e2 : y2 = .slice (some ⟨ba, oa, none⟩) nl c := hΦ 2 (by decide)
        subst e2
        have e3 : y3 = .int .i64 (q : Int) := hΦ 3 (by decide)
        subst e3
        have e4 : y4 = .pointer (some ⟨ba, oa + q * 6, none⟩) := hΦ 4 (by decide)
        subst e4
        have e5 : y5 = .pointer (some ⟨ba, oa + q * 6 + 1, none⟩) := hΦ 5 (by decide)
        subst e5
        have e6 : y6 = .int .i64 me := hΦ 6 (by decide)
        subst e6
        have e7 : y7 = .slice (some ⟨ba, oa, none⟩) nl c := hΦ 7 (by decide)
        subst e7
        have e8 : y8 = .int .i64 (q : Int) := hΦ 8 (by decide)
        subst e8
        have e9 : y9 = .pointer (some ⟨ba, oa + q * 6, none⟩) := hΦ 9 (by decide)
        subst e9
        have e10 : y10 = .pointer (some ⟨ba, oa + q * 6 + 2, none⟩) := hΦ 10 (by decide)
        subst e10
        have e11 : y11 = .int .i64 ar := hΦ 11 (by decide)
        subst e11
        have p12 : ∃ a1 cc1, y12 = .tuple #[.slice a1 L1.length cc1, .int .i64 rs, .int .i64 er] ∧ IntsAt w4 a1 L1 ∧ L1.length ≤ cc1 := hΦ 12 (by decide)
        have p13 : ∃ a1 cc1, y13 = .tuple #[.slice a1 L1.length cc1, .int .i64 rs, .int .i64 er] ∧ IntsAt w4 a1 L1 ∧ L1.length ≤ cc1 := hΦ 13 (by decide)
        have p14 : ∃ a1 cc1, y14 = .slice a1 L1.length cc1 ∧ IntsAt w4 a1 L1 ∧ L1.length ≤ cc1 := hΦ 14 (by decide)
        have e15 : y15 = .int .i64 rs := hΦ 15 (by decide)
        subst e15
        have e16 : y16 = .int .i64 er := hΦ 16 (by decide)
        subst e16
        have p17 : ∃ a1 cc1, y17 = .slice a1 L1.length cc1 ∧ IntsAt w4 a1 L1 ∧ L1.length ≤ cc1 := hΦ 17 (by decide)
        have e18 : y18 = .int .i64 rs := hΦ 18 (by decide)
        subst e18
        clear hΦ hvs
        simp only [putAll, Act.put, List.setIfInBounds_toArray, List.set_cons_succ, List.set_cons_zero]
        try simp only [putAll, Act.put, List.setIfInBounds_toArray, List.set_cons_succ, List.set_cons_zero]
        obtain ⟨a5, c5, h15, hI5, hc5⟩ := p17
        subst h15
        obtain ⟨w7, rfl⟩ : ∃ W, W = w4 := ⟨_, rfl⟩
        have HI5 := Lib.hid (fun W (hW : Ext w7 W) => hI5.ext hW)
        have HC5 := Lib.hid hc5
        have HE7 := Lib.hid (Ext.trans HE6.out (show Ext w6 w7 from hG))
        have HEw := Lib.hid (Ext.trans HX.out HE7.out)
        clear hI5 hc5 hG p12 p13 p14
        obtain ⟨x0, x1, x2, x3, x4, x5⟩ := HC.out w7 HE7.out
        by_cases her : er = 0
        · subst her
          by_cases hen : en = -1
          · subst hen
            have e : Nx = some (S ||| 2 ^ q, L1) := by rw [HN.out, if_neg (by simp)]
            subst e
            clear HN
            go_wp2_with fail
            go_quiet (fail)
            go_wp2
            go_ret2
            exact ⟨a5, L1, c5, rfl, HI5.out _ (Ext.drewN' (Below.refl _ _)), HC5.out, Ext.drewN' HEw.out, fun m h => by cases h; rfl⟩
          · have g4 : (en == -1) = false := by simpa using hen
            by_cases hrs : rs = re
            · subst hrs
              have e : Nx = some (S ||| 2 ^ q, L1) := by rw [HN.out, if_neg (by simp)]
              subst e
              clear HN hen
              go_wp2_with fail
              go_quiet (fail)
              go_wp2
              go_ret2
              exact ⟨a5, L1, c5, rfl, HI5.out _ (Ext.drewN' (Below.refl _ _)), HC5.out, Ext.drewN' HEw.out, fun m h => by cases h; rfl⟩
            · have g5 : (rs == re) = false := by simpa using hrs
              have e : Nx = none := by rw [HN.out, if_pos (.inr ⟨hen, hrs⟩)]
              subst e
              clear HN hen hrs
              go_wp2_with fail
              go_quiet (fail)
              go_wp2
              go_ret2
              exact ⟨a5, L1, c5, rfl, HI5.out _ (Ext.drewN' (Below.refl _ _)), HC5.out, Ext.drewN' HEw.out, fun m h => by cases h⟩
        · have g3 : (er == 0) = false := by simpa using her
          have e : Nx = none := by rw [HN.out, if_pos (.inl her)]
          subst e
          clear HN her
          go_wp2_with fail
          go_quiet (fail)
          go_wp2
          go_ret2
          exact ⟨a5, L1, c5, rfl, HI5.out _ (Ext.drewN' (Below.refl _ _)), HC5.out, Ext.drewN' HEw.out, fun m h => by cases h⟩
end Go.Proofs.YtmbkjccckmlacaaDoor

namespace Go.Proofs.YtmbkjccckmlacaaDoor
open Go.RowKit
set_option linter.unusedVariables false
set_option linter.unusedSimpArgs false

theorem slice_own (W : World) (b : Option Addr) (lo d : Nat) (h : lo ≤ d) : (Instr.sliceAt 27 (.slice b lo d) none (some (.int .i64 (lo : Int))) (some (.int .i64 (lo : Int)))).run Tryd.prog W = .ok (.slice b lo lo) W := by
  obtain ⟨i0, hi, hz0, hz1, hz2⟩ := info_parts infoInt7
  have e : Option.map (fun x : Addr => x.add 0) b = b := by cases b <;> simp [Addr.add]
  simp [Instr.sliceAt, Instr.slice, run_underlying Tryd.underlying27, Instr.sliceBounds, Instr.sliceBound, asIntOf, sizeOf, typeInfo, hi, Result.andThen, e, h]
theorem build_one (W : World) (x : Int) : (Instr.buildSlice 27 1 #[(0, .int .i64 x)]).run Tryd.prog W = .ok (.slice (some ⟨W.heap.size, 0, none⟩) 1 1) (W.alloc (.cells #[.int .i64 x] 3)) := by
  kernel_rfl
theorem ints_new (W : World) (x : Int) : IntsAt (W.alloc (.cells #[.int .i64 x] 3)) (some ⟨W.heap.size, 0, none⟩) [x] := fun i hi => by
  have h0 : i = 0 := by simpa using hi
  subst h0
  exact ⟨_, _, rfl, cell_of (alloc_here _ _) rfl⟩
/-- append of one number to a row that is full -/
theorem int_app_row (W : World) (b : Option Addr) (o : List Int) (g q : Nat) (hI : IntsAt W b o) (hb : o ≠ [] ∨ b = none) (hx : IntsAt W (some ⟨g, 0, none⟩) [(q : Int)]) (ho : o.length ≤ 1000) :
    ∃ p cap W', (Builtin.append_ #[27, 27] 27 #[.slice b o.length o.length, .slice (some ⟨g, 0, none⟩) 1 1]).run Tryd.prog W = .ok (.slice p (o ++ [(q : Int)]).length cap) W' ∧ IntsAt W' p (o ++ [(q : Int)]) ∧ (o ++ [(q : Int)]).length ≤ cap ∧ Ext W W' := by
  obtain ⟨b', off', e', hq⟩ := hx 0 (by simp)
  cases e'
  have hnews : ∀ j u, ([(q : Int)].map (Value.int .i64))[j]? = some u → W.cell? ((⟨g, 0, none⟩ : Addr).add j) = some u := by
    intro j u hu
    have hj : j = 0 := by
      have := (List.getElem?_eq_some_iff.1 hu).1
      simpa using this
    subst hj
    have e : (⟨g, 0, none⟩ : Addr).add 0 = ⟨g, 0, none⟩ := by simp [Addr.add]
    rw [e]
    simp at hu
    rw [← hu]
    exact hq
  by_cases h0 : o = []
  · subst h0
    obtain rfl : b = none := hb.resolve_left (by simp)
    obtain ⟨i0, hi, hz0, hz1, hz2⟩ := info_parts infoI'
    obtain ⟨v', w', h4, h5, h6, -⟩ := run_append_own_wide W W.heap.size 27 27 3 i0 (.int .i64 0) 1 8 Tryd.underlying27 hi hz0 hz1 hz2 rfl (by decide) _ 0 [] (RowI.nil W.heap.size W) ⟨g, 0, none⟩ 1 1 ([(q : Int)].map (Value.int .i64)) (by simp) hnews (by simp [Value.oneCell']) (by unfold maxLen; omega) (by omega) (Nat.le_refl _)
    have hrow : RowI W.heap.size v' [(q : Int)] w' := by unfold RowI; simpa using h5
    obtain ⟨x, cc, rfl, h7, h8, -⟩ := hrow.look
    exact ⟨x, cc, w', h4, h7, h8, (Below.refl W.heap.size W).grown h6 (Nat.le_refl _) (fun k e => by cases e)⟩
  · obtain ⟨i0, hi, hz0, hz1, hz2⟩ := info_parts infoInt7
    obtain ⟨bb, ob, hbb, _⟩ := hI 0 (List.length_pos_iff.2 h0)
    subst hbb
    have holds : ∀ j u, (o.map (Value.int .i64))[j]? = some u → W.cell? ((⟨bb, ob, none⟩ : Addr).add j) = some u := by
      intro j u hu
      have hj : j < o.length := by have := (List.getElem?_eq_some_iff.1 hu).1; simpa using this
      obtain ⟨b', off', e', hc⟩ := hI j hj
      cases e'
      have e : (⟨bb, ob, none⟩ : Addr).add j = ⟨bb, ob + j, none⟩ := by unfold Addr.add; split <;> simp_all
      rw [e, hc]
      simpa [hj] using hu
    have hr2 := run_append_grow (P := Tryd.prog) W 27 27 3 i0 _ Tryd.underlying27 hi hz0 ⟨bb, ob, none⟩ o.length o.length (o.map (Value.int .i64)) (by rw [hz1]; simp) holds ⟨g, 0, none⟩ 1 1 ([(q : Int)].map (Value.int .i64)) (by rw [hz1]; simp) hnews (by omega) (by omega) (growslice_fits (by omega) (by rw [hz2]; omega))
    refine ⟨_, _, _, by rw [List.length_append]; exact hr2, fun i hi => ⟨_, _, rfl, ?_⟩, ?_, ?_⟩
    · rw [Nat.zero_add]
      refine cell_of (alloc_here _ _) ?_
      have hi' : i < (o ++ [(q : Int)]).length := hi
      have e9 : (o.map (Value.int .i64)).toArray ++ ([(q : Int)].map (Value.int .i64)).toArray = ((o ++ [(q : Int)]).map (Value.int .i64)).toArray := by simp
      have h9 : i < ((o ++ [(q : Int)]).map (Value.int .i64)).toArray.size := by simpa using hi'
      rw [e9, Array.getElem?_append_left h9, List.getElem?_toArray, List.getElem?_map, List.getElem?_eq_getElem hi']
      rfl
    · rw [List.length_append]
      exact grownCap_ge W _ _ _
    · exact (Below.refl _ W).drew.alloc (Nat.le_refl _) _
/-- what search returns from a node on, behind an order -/
def sfR (k z : Int) (l : List Cl) (n : Nd) (o : List Int) : List Int := if 0 < cnt k z l n then o ++ (serN k z l n).map Int.ofNat else []
def SfP (k z : Int) (l : List Cl) (n : Nd) (o : List Int) (W : World) (e : Ending) (W' : World) : Prop := ∃ (a : Option Addr) (c : Nat), e = .returned (.tuple #[.slice a (sfR k z l n o).length c, .bool (decide (0 < cnt k z l n))]) ∧ IntsAt W' a (sfR k z l n o) ∧ (sfR k z l n o).length ≤ c ∧ Ext W W'
theorem no_next {k z : Int} {l : List Cl} {n : Nd} {j : Nat} (h : ∀ i, i < j → ∀ m, nxt k z l n i = some m → cnt k z l m = 0) (hj : ∀ m, nxt k z l n j = some m → cnt k z l m = 0) : ∀ i, i < j + 1 → ∀ m, nxt k z l n i = some m → cnt k z l m = 0 := fun i hi m hx => by
  by_cases e : i < j
  · exact h i e m hx
  · obtain rfl : i = j := by omega
    exact hj m hx
set_option maxRecDepth 100000 in
set_option maxHeartbeats 8000000 in
theorem refSearch_ind (k z : Int) (l : List Cl) (a : Option Addr) (c : Nat) (hm : mdE k z = 0) (hl : l.length ≤ 12) : ∀ (f : Nat) (n : Nd) (o : List Int) (b s : Option Addr) (d cs : Nat) (w : World), lft l n < f → o.length + lft l n ≤ 12 → OnP l n o → (o ≠ [] ∨ b = none) → stR k z n.2 = true → HsAt w a l → IntsAt w b o → o.length ≤ d → IntsAt w s n.2 → n.2.length ≤ cs → 
    Calls Tryd.prog 37 #[.agg #[.int .i64 k, .int .i64 z], .slice a l.length c, .slice b o.length d, .slice s n.2.length cs] w (SfP k z l n o w)
  | 0, n, o, b, s, d, cs, w, hf, _, _, _, _, _, _, _, _, _ => by omega
  | f + 1, n, o, b, s, d, cs, w, hf, hlo, hO, hb, hst, h, hI, hod, hS, hsc => by
    obtain ⟨hk1, hk6⟩ := mdE_k hm
    have HX := Lib.hid (ext_allocN w (.cells #[.int .i64 k, .int .i64 z] 23))
    have HMD := Lib.hid (mdCells w k z)
    obtain ⟨wk, hwk⟩ : ∃ W, W = w.alloc (.cells #[.int .i64 k, .int .i64 z] 23) := ⟨_, rfl⟩
    have hwk' := hwk.symm
    rw [hwk'] at HX HMD
    clear hwk
    obtain ⟨m0, m1⟩ := HMD.out wk (Below.refl _ _)
    have KFU := Lib.hid (fun W (hW : Ext wk W) => show Gives Tryd.prog 46 #[.slice a l.length c, .slice b o.length d] W (.bool (cmpl l n)) from by rw [← hO.full]; exact refFull_any l o a b c d W (by omega) (by omega) (h.ext (Ext.trans HX.out hW)) (hI.ext (Ext.trans HX.out hW)))
    have KFO := Lib.hid (fun q (hq : q < l.length) W (hW : Ext wk W) => refFollow_any k z l n o q a b s c d cs W hm hq hl (by omega) hO hst (h.ext (Ext.trans HX.out hW)) (hI.ext (Ext.trans HX.out hW)) (hS.ext (Ext.trans HX.out hW)) hsc)
    have IH := Lib.hid (fun q m (hx : nxt k z l n q = some m) W (hW : Ext wk W) p s5 cap c5 (h1 : IntsAt W p (o ++ [(q : Int)])) (h2 : (o ++ [(q : Int)]).length ≤ cap) (h3 : IntsAt W s5 m.2) (h4 : m.2.length ≤ c5) => refSearch_ind k z l a c hm hl f m (o ++ [(q : Int)]) p s5 cap c5 W (by have := nxt_lft hx; omega) (by have := nxt_lft hx; rw [List.length_append]; simp only [List.length_cons, List.length_nil]; omega) (hO.step hx) (.inl (by simp)) (gd_next hk1 hk6 hst hx) (h.ext (Ext.trans HX.out hW)) h1 h2 h3 h4)
    have HAP := Lib.hid (fun (q : Nat) W (hW : Ext wk W) g (hg : IntsAt W (some ⟨g, 0, none⟩) [(q : Int)]) => int_app_row W b o g q (hI.ext (Ext.trans HX.out hW)) hb hg (by omega))
    have HII := Lib.hid (fun W (hW : Ext w W) => hI.ext hW)
    have HR1 := Lib.hid (fun (hc : cmpl l n = false) j m (hj : j < l.length) (hx : nxt k z l n j = some m) (hb : ∀ i, i < j → ∀ m, nxt k z l n i = some m → cnt k z l m = 0) (hp : 0 < cnt k z l m) => show sfR k z l n o = sfR k z l m (o ++ [(j : Int)]) ∧ decide (0 < cnt k z l n) = true from by
      unfold sfR
      rw [if_pos hp, if_pos (cnt_next hx hp), serN_step hc hj hx hp hb]
      exact ⟨by simp, by simpa using cnt_next hx hp⟩)
    have HR0 := Lib.hid (fun (hc : cmpl l n = false) (hb : ∀ i, i < l.length → ∀ m, nxt k z l n i = some m → cnt k z l m = 0) => show sfR k z l n o = [] ∧ decide (0 < cnt k z l n) = false from by
      have h0 := cnt_zero hc hb
      unfold sfR
      rw [if_neg (by omega)]
      exact ⟨rfl, by simp; omega⟩)
    have HRF := Lib.hid (fun (hc : cmpl l n = true) => show sfR k z l n o = o ∧ decide (0 < cnt k z l n) = true from by
      unfold sfR
      rw [cnt_full hc, if_pos (by omega), serN_full hc]
      exact ⟨by simp, rfl⟩)
    unfold SfP
    generalize hR : sfR k z l n o = R at *
    generalize hB : decide (0 < cnt k z l n) = B at *
    generalize hcc : cmpl l n = C at *
    clear hR hB hcc
    obtain ⟨nl, hnl⟩ : ∃ nl, l.length = nl := ⟨_, rfl⟩
    have HNL := Lib.hid hnl
    obtain ⟨lo, hlo'⟩ : ∃ lo, o.length = lo := ⟨_, rfl⟩
    have HLO := Lib.hid hlo'
    have hlod : lo ≤ d := by omega
    rw [hnl] at KFU KFO HR0 hl
    rw [hlo'] at KFU KFO
    rw [hnl, hlo']
    clear hnl hlo' hO hb hst h hI hS hsc hf hlo hm
    cases C with
    | true =>
      obtain ⟨hr1, hr2⟩ := HRF.out rfl
      subst hr1 hr2
      clear HR1 HR0 HRF IH HAP KFO
      go_enter Tryd.func37, Tryd.ntmps37
      go_wp2_with fail
      try rw [hwk']
      refine (KFU.out wk (Below.refl _ _)).mono ?_
      intro w5 hE5
      have HE5 := Lib.hid (show Ext w w5 from Ext.trans HX.out hE5)
      clear hE5
      go_wp2
      go_ret2
      exact ⟨b, d, by rw [HLO.out]; rfl, HII.out _ HE5.out, by rw [HLO.out]; exact hlod, HE5.out⟩
    | false =>
      have HS0 := Lib.hid (HR0.out rfl)
      have HS1 := Lib.hid (HR1.out rfl)
      clear HR0 HR1 HRF
      go_enter Tryd.func37, Tryd.ntmps37
      go_wp2_with fail
      try rw [hwk']
      refine (KFU.out wk (Below.refl _ _)).mono ?_
      intro w5 hE5
      have HE5 := Lib.hid (show Ext wk w5 from hE5)
      clear hE5 m0 m1
      go_wp2_with fail
      go_loopw [10] (fun i wr => ∃ j : Nat, j ≤ nl ∧ i = .int .i64 (j : Int) ∧ (∀ i, i < j → ∀ m, nxt k z l n i = some m → cnt k z l m = 0) ∧ Ext wk wr) (fun i _ => nl - (intOf i).toNat)
      case atStart => exact ⟨0, Nat.zero_le _, rfl, fun i hi => by omega, HE5.out⟩
      case round =>
        obtain ⟨j, hj, rfl, hno, hEr⟩ := hrel
        have HNO := Lib.hid hno
        have HE := Lib.hid hEr
        clear hno hEr
        by_cases hlt : j < nl
        · have hjl : j < l.length := by rw [HNL.out]; exact hlt
          have hi0 : (0 : Int) ≤ (j : Int) := by omega
          have hi1 : (j : Int) < (nl : Int) := by omega
          have KF := Lib.hid (KFO.out j hlt wr HE.out)
          unfold FoP at KF
          have HAPj := Lib.hid (HAP.out j)
          rw [HLO.out] at HAPj
          have IHj := Lib.hid (IH.out j)
          obtain ⟨o1, ho1⟩ : ∃ o1, o ++ [(j : Int)] = o1 := ⟨_, rfl⟩
          have HO1 := Lib.hid ho1
          rw [ho1] at HAPj IHj
          clear ho1
          obtain ⟨m0, m1⟩ := HMD.out wr HE.out
          cases hx : nxt k z l n j with
          | none =>
            rw [hx] at KF
            go_wp2_with fail
            refine KF.out.mono ?_
            rintro e w5 ⟨a5, L5, c5, rfl, hI5, hc5, hE5, -⟩
            have HE5 := Lib.hid (Ext.trans HE.out hE5)
            clear hE5 hI5 hc5 m0 m1
            have HN1 := Lib.hid (no_next HNO.out (fun m h => by rw [hx] at h; cases h))
            clear hx KF
            go_wp2
            exact ⟨⟨j + 1, by omega, by go_num, HN1.out, HE5.out⟩, by simp [intOf]; omega⟩
          | some m =>
            rw [hx] at KF
            go_wp2_with fail
            refine KF.out.mono ?_
            rintro e w5 ⟨a5, L5, c5, rfl, hI5, hc5, hE5, hm5⟩
            have HE5 := Lib.hid (Ext.trans HE.out hE5)
            have hm5 := hm5 m rfl
            have IHm := Lib.hid (fun W (hW : Ext w5 W) p cap (h1 : IntsAt W p o1) (h2 : o1.length ≤ cap) => show Calls Tryd.prog 37 #[.agg #[.int .i64 k, .int .i64 z], .slice a nl c, .slice p o1.length cap, .slice a5 L5.length c5] W (SfP k z l m o1 W) from by
              have h3 := IHj.out m hx W (Ext.trans HE5.out hW) p a5 cap c5 h1 h2 (by rw [hm5]; exact hI5.ext hW) (by rw [hm5]; exact hc5)
              rw [hm5, HNL.out] at h3
              exact h3)
            unfold SfP at IHm
            have HRm := Lib.hid (fun (h : decide (0 < cnt k z l m) = true) => show R = sfR k z l m o1 ∧ B = true from by have h1 := HS1.out j m hjl hx HNO.out (by simpa using h); rw [HO1.out] at h1; exact h1)
            have HNm := Lib.hid (fun (h : decide (0 < cnt k z l m) = false) => no_next HNO.out (fun m' h' => by rw [hx] at h'; cases h'; have h1 : ¬ 0 < cnt k z l m := (by simpa using h); omega))
            clear hm5 hI5 hc5 hE5 m0 m1 hx KF
            generalize sfR k z l m o1 = R1 at *
            generalize decide (0 < cnt k z l m) = B1 at *
            go_wp2_with fail
            refine wp_region_tail (l1 := [_, _, _, _, _, _, _, _, _, _, _, _, _, _, _, _, _]) (l2 := [_]) (by kernel_rfl) Ext (fun W => Below.refl _ W) (fun W => show Below W.heap.size W { W with drawn := W.drawn + 1 } from ⟨rfl, rfl, rfl, Nat.le_refl _, fun _ _ => rfl⟩) Ext.trans
              (fun i s W => match i with
                | 0 => s 0 = .agg #[.int .i64 k, .int .i64 z]
                | 1 => s 1 = .slice a nl c
                | 2 => s 2 = .slice b lo d
                | 3 => s 3 = .slice b lo d
                | 4 => s 4 = .int .i64 (lo : Int)
                | 5 => s 5 = .slice b lo d
                | 6 => s 6 = .int .i64 (lo : Int)
                | 7 => s 7 = .slice b lo lo
                | 8 => s 8 = .int .i64 (j : Int)
                | 9 => ∃ g, s 9 = .slice (some ⟨g, 0, none⟩) 1 1 ∧ IntsAt W (some ⟨g, 0, none⟩) [(j : Int)]
                | 10 => ∃ p cap, s 10 = .slice p o1.length cap ∧ IntsAt W p o1 ∧ o1.length ≤ cap
                | 11 => s 11 = .slice a5 L5.length c5
                | 12 => ∃ a1 cc1, s 12 = .tuple #[.slice a1 R1.length cc1, .bool B1] ∧ IntsAt W a1 R1 ∧ R1.length ≤ cc1
                | 13 => ∃ a1 cc1, s 13 = .tuple #[.slice a1 R1.length cc1, .bool B1] ∧ IntsAt W a1 R1 ∧ R1.length ≤ cc1
                | 14 => ∃ a1 cc1, s 14 = .slice a1 R1.length cc1 ∧ IntsAt W a1 R1 ∧ R1.length ≤ cc1
                | 15 => s 15 = .bool B1
                | 16 => ∃ a1 cc1, s 16 = .slice a1 R1.length cc1 ∧ IntsAt W a1 R1 ∧ R1.length ≤ cc1
                | _ => True)
              (fun i => [i])
              (by
                intro i s s' W W' h hs hE
                have hs := hs i (by simp)
                match i, h, hs with
                | 0, h, hs => exact hs.trans h
                | 1, h, hs => exact hs.trans h
                | 2, h, hs => exact hs.trans h
                | 3, h, hs => exact hs.trans h
                | 4, h, hs => exact hs.trans h
                | 5, h, hs => exact hs.trans h
                | 6, h, hs => exact hs.trans h
                | 7, h, hs => exact hs.trans h
                | 8, h, hs => exact hs.trans h
                | 9, ⟨g, h, h1⟩, hs => exact ⟨g, hs.trans h, h1.ext hE⟩
                | 10, ⟨p, cap, h, h1, h2⟩, hs => exact ⟨p, cap, hs.trans h, h1.ext hE, h2⟩
                | 11, h, hs => exact hs.trans h
                | 12, ⟨a1, cc1, h, h1, h2⟩, hs => exact ⟨a1, cc1, hs.trans h, h1.ext hE, h2⟩
                | 13, ⟨a1, cc1, h, h1, h2⟩, hs => exact ⟨a1, cc1, hs.trans h, h1.ext hE, h2⟩
                | 14, ⟨a1, cc1, h, h1, h2⟩, hs => exact ⟨a1, cc1, hs.trans h, h1.ext hE, h2⟩
                | 15, h, hs => exact hs.trans h
                | 16, ⟨a1, cc1, h, h1, h2⟩, hs => exact ⟨a1, cc1, hs.trans h, h1.ext hE, h2⟩
                | i + 17, h, hs => exact trivial)
              (by kernel_rfl) (by kernel_rfl) (by kernel_rfl) 53 rfl (by kernel_rfl) (by kernel_rfl) ?_ ?_
            · intro i op ho a' W hA
              obtain ⟨m0, m1⟩ := HMD.out W (Ext.trans HE5.out hA.rel)
              match i, ho with
              | 0, ho =>
                obtain rfl := Option.some.inj ho
                have e1 : a'.eval (.tmp 4) = .pointer (some ⟨w.heap.size, 0, none⟩) := hA.keep 4 (by kernel_rfl)
                refine GoesG.value (.agg #[.int .i64 k, .int .i64 z]) rfl ?_ (Below.refl _ _) (fun s h1 h2 => h1 rfl)
                simp only [execOp, e1]
                simp [go_sem, m0, m1]
              | 1, ho =>
                obtain rfl := Option.some.inj ho
                have e1 : a'.eval (.tmp 1) = .slice a nl c := hA.keep 1 (by kernel_rfl)
                refine GoesG.value (.slice a nl c) rfl ?_ (Below.refl _ _) (fun s h1 h2 => h1 rfl)
                simp only [execOp, e1]
                simp [go_sem, m0, m1]
              | 2, ho =>
                obtain rfl := Option.some.inj ho
                have e1 : a'.eval (.tmp 2) = .slice b lo d := hA.keep 2 (by kernel_rfl)
                refine GoesG.value (.slice b lo d) rfl ?_ (Below.refl _ _) (fun s h1 h2 => h1 rfl)
                simp only [execOp, e1]
                simp [go_sem, m0, m1]
              | 3, ho =>
                obtain rfl := Option.some.inj ho
                have e1 : a'.eval (.tmp 2) = .slice b lo d := hA.keep 2 (by kernel_rfl)
                refine GoesG.value (.slice b lo d) rfl ?_ (Below.refl _ _) (fun s h1 h2 => h1 rfl)
                simp only [execOp, e1]
                simp [go_sem, m0, m1]
              | 4, ho =>
                obtain rfl := Option.some.inj ho
                have e1 : a'.eval (.tmp 39) = .slice b lo d := (sv_dst (l := _) rfl).symm.trans (hA.new 3 (by decide) (by kernel_rfl))
                refine GoesG.value (.int .i64 (lo : Int)) rfl ?_ (Below.refl _ _) (fun s h1 h2 => h1 rfl)
                simp [Act.eval] at e1
                simp [execOp, go_sem, e1]
              | 5, ho =>
                obtain rfl := Option.some.inj ho
                have e1 : a'.eval (.tmp 2) = .slice b lo d := hA.keep 2 (by kernel_rfl)
                refine GoesG.value (.slice b lo d) rfl ?_ (Below.refl _ _) (fun s h1 h2 => h1 rfl)
                simp only [execOp, e1]
                simp [go_sem, m0, m1]
              | 6, ho =>
                obtain rfl := Option.some.inj ho
                have e1 : a'.eval (.tmp 41) = .slice b lo d := (sv_dst (l := _) rfl).symm.trans (hA.new 5 (by decide) (by kernel_rfl))
                refine GoesG.value (.int .i64 (lo : Int)) rfl ?_ (Below.refl _ _) (fun s h1 h2 => h1 rfl)
                simp [Act.eval] at e1
                simp [execOp, go_sem, e1]
              | 7, ho =>
                obtain rfl := Option.some.inj ho
                have e1 : a'.eval (.tmp 38) = .slice b lo d := (sv_dst (l := _) rfl).symm.trans (hA.new 2 (by decide) (by kernel_rfl))
                have e2 : a'.eval (.tmp 40) = .int .i64 (lo : Int) := (sv_dst (l := _) rfl).symm.trans (hA.new 4 (by decide) (by kernel_rfl))
                have e3 : a'.eval (.tmp 42) = .int .i64 (lo : Int) := (sv_dst (l := _) rfl).symm.trans (hA.new 6 (by decide) (by kernel_rfl))
                refine GoesG.value (.slice b lo lo) rfl ?_ (Below.refl _ _) (fun s h1 h2 => h1 rfl)
                simp [execOp, e1, e2, e3, slice_own _ _ _ _ hlod]
              | 8, ho =>
                obtain rfl := Option.some.inj ho
                have e1 : a'.eval (.tmp 10) = .int .i64 (j : Int) := hA.keep 10 (by kernel_rfl)
                refine GoesG.value (.int .i64 (j : Int)) rfl ?_ (Below.refl _ _) (fun s h1 h2 => h1 rfl)
                simp only [execOp, e1]
                simp [go_sem, m0, m1]
              | 9, ho =>
                obtain rfl := Option.some.inj ho
                have e1 : a'.eval (.tmp 44) = .int .i64 (j : Int) := (sv_dst (l := _) rfl).symm.trans (hA.new 8 (by decide) (by kernel_rfl))
                refine GoesG.value (W' := W.alloc (.cells #[.int .i64 (j : Int)] 3)) (.slice (some ⟨W.heap.size, 0, none⟩) 1 1) rfl ?_ (ext_allocN _ _) (fun s g1 g2 => ⟨W.heap.size, g1 rfl, ints_new W _⟩)
                simp [execOp, e1, build_one]
              | 10, ho =>
                obtain rfl := Option.some.inj ho
                have e1 : a'.eval (.tmp 43) = .slice b lo lo := (sv_dst (l := _) rfl).symm.trans (hA.new 7 (by decide) (by kernel_rfl))
                obtain ⟨g, e0, h1⟩ := hA.new 9 (by decide) (by kernel_rfl)
                have e2 : a'.eval (.tmp 45) = .slice (some ⟨g, 0, none⟩) 1 1 := (sv_dst (l := _) rfl).symm.trans e0
                obtain ⟨p, cap, W', hr, h2, h3, h4⟩ := HAPj.out W (Ext.trans HE5.out hA.rel) g h1
                exact GoesG.app2 rfl (.tmp 43) (.tmp 45) 27 rfl _ _ (.slice (some ⟨g, 0, none⟩) 1 1) e1 e2 hr h4 (fun s g1 g2 => ⟨p, cap, g1 rfl, h2, h3⟩)
              | 11, ho =>
                obtain rfl := Option.some.inj ho
                have e1 : a'.eval (.tmp 11) = .slice a5 L5.length c5 := hA.keep 11 (by kernel_rfl)
                refine GoesG.value (.slice a5 L5.length c5) rfl ?_ (Below.refl _ _) (fun s h1 h2 => h1 rfl)
                simp only [execOp, e1]
                simp [go_sem, m0, m1]
              | 12, ho =>
                obtain rfl := Option.some.inj ho
                obtain ⟨p, cap, e0, h1, h2⟩ := hA.new 10 (by decide) (by kernel_rfl)
                have e1 : a'.eval (.tmp 36) = .agg #[.int .i64 k, .int .i64 z] := (sv_dst (l := _) rfl).symm.trans (hA.new 0 (by decide) (by kernel_rfl))
                have e2 : a'.eval (.tmp 37) = .slice a nl c := (sv_dst (l := _) rfl).symm.trans (hA.new 1 (by decide) (by kernel_rfl))
                have e3 : a'.eval (.tmp 46) = .slice p o1.length cap := (sv_dst (l := _) rfl).symm.trans e0
                have e4 : a'.eval (.tmp 47) = .slice a5 L5.length c5 := (sv_dst (l := _) rfl).symm.trans (hA.new 11 (by decide) (by kernel_rfl))
                refine GoesG.call 37 #[.agg #[.int .i64 k, .int .i64 z], .slice a nl c, .slice p o1.length cap, .slice a5 L5.length c5] rfl ?_ ?_
                · have en := enters_fn Tryd.func37 (by kernel_rfl) rfl
                  simp [Act.eval] at e1 e2 e3 e4
                  simp [execOp, go_sem, e1, e2, e3, e4, en]
                · refine (IHm.out W hA.rel p cap h1 h2).mono ?_
                  rintro e W2 ⟨a1, cc1, rfl, g1, g2, g3⟩
                  exact ⟨_, rfl, g3, fun s q1 q2 => ⟨a1, cc1, q1 rfl, g1, g2⟩⟩
              | 13, ho =>
                obtain rfl := Option.some.inj ho
                obtain ⟨a1, cc1, e0, h1, h2⟩ := hA.new 12 (by decide) (by kernel_rfl)
                have e1 : a'.eval (.tmp 48) = .tuple #[.slice a1 R1.length cc1, .bool B1] := (sv_dst (l := _) rfl).symm.trans e0
                refine GoesG.value (.tuple #[.slice a1 R1.length cc1, .bool B1]) rfl ?_ (Below.refl _ _) (fun s g1 g2 => ⟨a1, cc1, g1 rfl, h1, h2⟩)
                simp only [execOp, e1]
                simp [go_sem]
              | 14, ho =>
                obtain rfl := Option.some.inj ho
                obtain ⟨a1, cc1, e0, h1, h2⟩ := hA.new 13 (by decide) (by kernel_rfl)
                have e1 : a'.eval (.tmp 35) = .tuple #[.slice a1 R1.length cc1, .bool B1] := (sv_dst (l := _) rfl).symm.trans e0
                refine GoesG.value (.slice a1 R1.length cc1) rfl ?_ (Below.refl _ _) (fun s g1 g2 => ⟨a1, cc1, g1 rfl, h1, h2⟩)
                simp only [execOp, e1]
                simp [go_sem]
              | 15, ho =>
                obtain rfl := Option.some.inj ho
                obtain ⟨a1, cc1, e0, h1, h2⟩ := hA.new 13 (by decide) (by kernel_rfl)
                have e1 : a'.eval (.tmp 35) = .tuple #[.slice a1 R1.length cc1, .bool B1] := (sv_dst (l := _) rfl).symm.trans e0
                refine GoesG.value (.bool B1) rfl ?_ (Below.refl _ _) (fun s g1 g2 => g1 rfl)
                simp only [execOp, e1]
                simp [go_sem]
              | 16, ho =>
                obtain rfl := Option.some.inj ho
                obtain ⟨a1, cc1, e0, h1, h2⟩ := hA.new 14 (by decide) (by kernel_rfl)
                have e1 : a'.eval (.tmp 49) = .slice a1 R1.length cc1 := (sv_dst (l := _) rfl).symm.trans e0
                refine GoesG.value (.slice a1 R1.length cc1) rfl ?_ (Below.refl _ _) (fun s g1 g2 => ⟨a1, cc1, g1 rfl, h1, h2⟩)
                simp only [execOp, e1]
                simp [go_sem]
              | i + 17, ho => cases ho
            · intro vs w4 hvs hG hΦ
              obtain ⟨y0, y1, y2, y3, y4, y5, y6, y7, y8, y9, y10, y11, y12, y13, y14, y15, y16, rfl⟩ : ∃ y0 y1 y2 y3 y4 y5 y6 y7 y8 y9 y10 y11 y12 y13 y14 y15 y16, vs = y0 :: y1 :: y2 :: y3 :: y4 :: y5 :: y6 :: y7 :: y8 :: y9 :: y10 :: y11 :: y12 :: y13 :: y14 :: y15 :: y16 :: [] := by
                match vs, hvs with
                | y0 :: y1 :: y2 :: y3 :: y4 :: y5 :: y6 :: y7 :: y8 :: y9 :: y10 :: y11 :: y12 :: y13 :: y14 :: y15 :: y16 :: [], _ => exact ⟨y0, y1, y2, y3, y4, y5, y6, y7, y8, y9, y10, y11, y12, y13, y14, y15, y16, rfl⟩
              have e0 : y0 = .agg #[.int .i64 k, .int .i64 z] := hΦ 0 (by decide)
              subst e0
              have e1 : y1 = .slice a nl c := hΦ 1 (by decide)
              subst e1
              have e2 : y2 = .slice b lo d := hΦ 2 (by decide)
              subst e2
              have e3 : y3 = .slice b lo d := hΦ 3 (by decide)
              subst e3
              have e4 : y4 = .int .i64 (lo : Int) := hΦ 4 (by decide)
              subst e4
              have e5 : y5 = .slice b lo d := hΦ 5 (by decide)
              subst e5
              have e6 : y6 = .int .i64 (lo : Int) := hΦ 6 (by decide)
              subst e6
              have e7 : y7 = .slice b lo lo := hΦ 7 (by decide)
              subst e7
              have e8 : y8 = .int .i64 (j : Int) := hΦ 8 (by decide)
              subst e8
              have p9 : ∃ g, y9 = .slice (some ⟨g, 0, none⟩) 1 1 ∧ IntsAt w4 (some ⟨g, 0, none⟩) [(j : Int)] := hΦ 9 (by decide)
              have p10 : ∃ p cap, y10 = .slice p o1.length cap ∧ IntsAt w4 p o1 ∧ o1.length ≤ cap := hΦ 10 (by decide)
              have e11 : y11 = .slice a5 L5.length c5 := hΦ 11 (by decide)
              subst e11
              have p12 : ∃ a1 cc1, y12 = .tuple #[.slice a1 R1.length cc1, .bool B1] ∧ IntsAt w4 a1 R1 ∧ R1.length ≤ cc1 := hΦ 12 (by decide)
              have p13 : ∃ a1 cc1, y13 = .tuple #[.slice a1 R1.length cc1, .bool B1] ∧ IntsAt w4 a1 R1 ∧ R1.length ≤ cc1 := hΦ 13 (by decide)
              have p14 : ∃ a1 cc1, y14 = .slice a1 R1.length cc1 ∧ IntsAt w4 a1 R1 ∧ R1.length ≤ cc1 := hΦ 14 (by decide)
              have e15 : y15 = .bool B1 := hΦ 15 (by decide)
              subst e15
              have p16 : ∃ a1 cc1, y16 = .slice a1 R1.length cc1 ∧ IntsAt w4 a1 R1 ∧ R1.length ≤ cc1 := hΦ 16 (by decide)
              clear hΦ hvs
              simp only [putAll, Act.put, List.setIfInBounds_toArray, List.set_cons_succ, List.set_cons_zero]
              try simp only [putAll, Act.put, List.setIfInBounds_toArray, List.set_cons_succ, List.set_cons_zero]
              obtain ⟨a7, c7, h7, hI7, hc7⟩ := p16
              subst h7
              obtain ⟨w7, rfl⟩ : ∃ W, W = w4 := ⟨_, rfl⟩
              have HE7 := Lib.hid (Ext.trans HE5.out (show Ext w5 w7 from hG))
              clear hG p9 p10 p12 p13 p14
              cases B1 with
              | true =>
                obtain ⟨hr1, hr2⟩ := HRm.out rfl
                subst hr1 hr2
                go_wp2
                go_ret2
                exact ⟨a7, c7, rfl, hI7, hc7, Ext.trans HX.out HE7.out⟩
              | false =>
                have HN1 := Lib.hid (HNm.out rfl)
                go_wp2
                exact ⟨⟨j + 1, by omega, by go_num, HN1.out, HE7.out⟩, by simp [intOf]; omega⟩
        · have hjl : nl = j := by omega
          subst hjl
          obtain ⟨hr1, hr2⟩ := HS0.out HNO.out
          have HRv := Lib.hid hr1
          clear hr1
          subst hr2
          go_wp2
          go_ret2
          exact ⟨none, 0, by rw [HRv.out]; rfl, by rw [HRv.out]; exact IntsAt.nil, by rw [HRv.out]; exact Nat.le_refl _, Ext.trans HX.out HE.out⟩
end Go.Proofs.YtmbkjccckmlacaaDoor

namespace Go.Proofs.YtmbkjccckmlacaaDoor
open Go.RowKit
set_option linter.unusedVariables false
set_option linter.unusedSimpArgs false

theorem wrap_sub {a b : Nat} (h : b ≤ a) (ha : a ≤ 10000) : IntKind.i64.wrap ((a : Int) - (b : Int)) = ((a - b : Nat) : Int) := by
  rw [wrapi (by omega) (by omega)]
  omega
/-- what count gives -/
def CoP (k z : Int) (l : List Cl) (n : Nd) (mm : Nat) (W : World) (e : Ending) (W' : World) : Prop := e = .returned (.int .i64 ((min mm (cnt k z l n) : Nat) : Int)) ∧ Ext W W'
set_option maxRecDepth 100000 in
set_option maxHeartbeats 8000000 in
theorem refCount_ind (k z : Int) (l : List Cl) (a : Option Addr) (c : Nat) (hm : mdE k z = 0) (hl : l.length ≤ 12) : ∀ (f : Nat) (n : Nd) (o : List Int) (b s : Option Addr) (d cs mm : Nat) (w : World), lft l n < f → o.length + lft l n ≤ 12 → OnP l n o → (o ≠ [] ∨ b = none) → stR k z n.2 = true → HsAt w a l → IntsAt w b o → o.length ≤ d → IntsAt w s n.2 → n.2.length ≤ cs → mm ≤ 10000 → 
    Calls Tryd.prog 40 #[.agg #[.int .i64 k, .int .i64 z], .slice a l.length c, .slice b o.length d, .slice s n.2.length cs, .int .i64 (mm : Int)] w (CoP k z l n mm w)
  | 0, n, o, b, s, d, cs, mm, w, hf, _, _, _, _, _, _, _, _, _, _ => by omega
  | f + 1, n, o, b, s, d, cs, mm, w, hf, hlo, hO, hb, hst, h, hI, hod, hS, hsc, hM => by
    obtain ⟨hk1, hk6⟩ := mdE_k hm
    have HX := Lib.hid (ext_allocN w (.cells #[.int .i64 k, .int .i64 z] 23))
    have HMD := Lib.hid (mdCells w k z)
    obtain ⟨wk, hwk⟩ : ∃ W, W = w.alloc (.cells #[.int .i64 k, .int .i64 z] 23) := ⟨_, rfl⟩
    have hwk' := hwk.symm
    rw [hwk'] at HX HMD
    clear hwk
    obtain ⟨m0, m1⟩ := HMD.out wk (Below.refl _ _)
    have KFU := Lib.hid (fun W (hW : Ext wk W) => show Gives Tryd.prog 46 #[.slice a l.length c, .slice b o.length d] W (.bool (cmpl l n)) from by rw [← hO.full]; exact refFull_any l o a b c d W (by omega) (by omega) (h.ext (Ext.trans HX.out hW)) (hI.ext (Ext.trans HX.out hW)))
    have KFO := Lib.hid (fun q (hq : q < l.length) W (hW : Ext wk W) => refFollow_any k z l n o q a b s c d cs W hm hq hl (by omega) hO hst (h.ext (Ext.trans HX.out hW)) (hI.ext (Ext.trans HX.out hW)) (hS.ext (Ext.trans HX.out hW)) hsc)
    have IH := Lib.hid (fun q m (hx : nxt k z l n q = some m) W (hW : Ext wk W) p s5 cap c5 (mm : Nat) (h1 : IntsAt W p (o ++ [(q : Int)])) (h2 : (o ++ [(q : Int)]).length ≤ cap) (h3 : IntsAt W s5 m.2) (h4 : m.2.length ≤ c5) (h5 : mm ≤ 10000) => refCount_ind k z l a c hm hl f m (o ++ [(q : Int)]) p s5 cap c5 mm W (by have := nxt_lft hx; omega) (by have := nxt_lft hx; rw [List.length_append]; simp only [List.length_cons, List.length_nil]; omega) (hO.step hx) (.inl (by simp)) (gd_next hk1 hk6 hst hx) (h.ext (Ext.trans HX.out hW)) h1 h2 h3 h4 h5)
    have HAP := Lib.hid (fun (q : Nat) W (hW : Ext wk W) g (hg : IntsAt W (some ⟨g, 0, none⟩) [(q : Int)]) => int_app_row W b o g q (hI.ext (Ext.trans HX.out hW)) hb hg (by omega))
    have HII := Lib.hid (fun W (hW : Ext w W) => hI.ext hW)
    have HM2 := Lib.hid hM
    have hmm := hM
    have HCF := Lib.hid (fun (hc : cmpl l n = true) => cnt_full (k := k) (z := z) hc)
    have HCP := Lib.hid (fun (hc : cmpl l n = false) j (hj : j ≤ l.length) => show cntP k z l n j ≤ cnt k z l n from by rw [cnt_P k z l n hc]; exact cntP_mono hj)
    have HCE := Lib.hid (fun (hc : cmpl l n = false) => cnt_P k z l n hc)
    unfold CoP
    obtain ⟨R, hR⟩ : ∃ R, min mm (cnt k z l n) = R := ⟨_, rfl⟩
    have HRN := Lib.hid hR
    rw [hR]
    generalize hcc : cmpl l n = C at *
    clear hR hcc
    obtain ⟨nl, hnl⟩ : ∃ nl, l.length = nl := ⟨_, rfl⟩
    have HNL := Lib.hid hnl
    obtain ⟨lo, hlo'⟩ : ∃ lo, o.length = lo := ⟨_, rfl⟩
    have HLO := Lib.hid hlo'
    have hlod : lo ≤ d := by omega
    rw [hnl] at KFU KFO HCP HCE hl
    rw [hlo'] at KFU KFO
    rw [hnl, hlo']
    clear hnl hlo' hO hb hst h hI hS hsc hf hlo hm
    by_cases hm0 : mm = 0
    · subst hm0
      have HRv := Lib.hid (show R = 0 from by have := HRN.out; omega)
      clear HCF HCP HCE HRN IH HAP KFO KFU
      go_enter Tryd.func40, Tryd.ntmps40
      go_wp2
      go_ret
      exact ⟨by rw [HRv.out]; rfl, HX.out⟩
    have d1 : ((mm : Int) == 0) = false := by simp; omega
    cases C with
    | true =>
      have HRv := Lib.hid (show R = 1 from by have h1 := HRN.out; rw [HCF.out rfl] at h1; omega)
      clear HCF HCP HCE HRN IH HAP KFO
      go_enter Tryd.func40, Tryd.ntmps40
      go_wp2_with fail
      try rw [hwk']
      refine (KFU.out wk (Below.refl _ _)).mono ?_
      intro w5 hE5
      have HE5 := Lib.hid (show Ext w w5 from Ext.trans HX.out hE5)
      clear hE5
      go_wp2
      go_ret
      exact ⟨by rw [HRv.out]; rfl, HE5.out⟩
    | false =>
      have HDP := Lib.hid (fun j (hj : j ≤ nl) => HCP.out rfl j hj)
      have HDE := Lib.hid (HCE.out rfl)
      clear HCP HCE HCF
      go_enter Tryd.func40, Tryd.ntmps40
      go_wp2_with fail
      try rw [hwk']
      refine (KFU.out wk (Below.refl _ _)).mono ?_
      intro w5 hE5
      have HE5 := Lib.hid (show Ext wk w5 from hE5)
      clear hE5 m0 m1
      go_wp2_with fail
      go_loopw [11, 12] (fun s i wr => ∃ j : Nat, j ≤ nl ∧ s = .int .i64 ((min mm (cntP k z l n j) : Nat) : Int) ∧ i = .int .i64 (j : Int) ∧ Ext wk wr) (fun _ i _ => nl - (intOf i).toNat)
      case atStart => exact ⟨0, Nat.zero_le _, by rw [show min mm (cntP k z l n 0) = 0 from by simp [cntP]]; rfl, rfl, HE5.out⟩
      case round =>
        obtain ⟨j, hj, rfl, rfl, hEr⟩ := hrel
        have HE := Lib.hid hEr
        clear hEr
        obtain ⟨N, hNe⟩ : ∃ N, min mm (cntP k z l n j) = N := ⟨_, rfl⟩
        have HNe := Lib.hid hNe
        rw [hNe]
        have hNm : N ≤ mm := by omega
        clear hNe
        by_cases hlt : j < nl
        · have hjl : j < l.length := by rw [HNL.out]; exact hlt
          have hi0 : (0 : Int) ≤ (j : Int) := by omega
          have hi1 : (j : Int) < (nl : Int) := by omega
          have KF := Lib.hid (KFO.out j hlt wr HE.out)
          unfold FoP at KF
          have HAPj := Lib.hid (HAP.out j)
          rw [HLO.out] at HAPj
          have IHj := Lib.hid (IH.out j)
          obtain ⟨o1, ho1⟩ : ∃ o1, o ++ [(j : Int)] = o1 := ⟨_, rfl⟩
          have HO1 := Lib.hid ho1
          rw [ho1] at HAPj IHj
          clear ho1
          obtain ⟨m0, m1⟩ := HMD.out wr HE.out
          by_cases hN : N < mm
          rotate_left
          · have d8 : decide ((N : Int) < (mm : Int)) = false := by simp; omega
            have d9 : decide (N < mm) = false := by simpa using hN
            have HRv := Lib.hid (show R = N from by have h1 := HDP.out j (by omega); have h2 := HNe.out; have h3 := HRN.out; omega)
            go_wp2
            go_ret
            exact ⟨by rw [HRv.out]; rfl, Ext.trans HX.out HE.out⟩
          have d8 : decide ((N : Int) < (mm : Int)) = true := by simp; omega
          have d9 : decide (N < mm) = true := by simpa using hN
          cases hx : nxt k z l n j with
          | none =>
            rw [hx] at KF
            go_wp2_with fail
            refine KF.out.mono ?_
            rintro e w5 ⟨a5, L5, c5, rfl, hI5, hc5, hE5, -⟩
            have HE5 := Lib.hid (Ext.trans HE.out hE5)
            clear hE5 hI5 hc5 m0 m1
            have HN1 := Lib.hid (show min mm (cntP k z l n (j + 1)) = N from by rw [cntP_succ, hx]; exact HNe.out)
            clear hx KF
            go_wp2
            exact ⟨⟨j + 1, by omega, by rw [HN1.out], by go_num, HE5.out⟩, by simp [intOf]; omega⟩
          | some m =>
            rw [hx] at KF
            go_wp2_with fail
            refine KF.out.mono ?_
            rintro e w5 ⟨a5, L5, c5, rfl, hI5, hc5, hE5, hm5⟩
            have HE5 := Lib.hid (Ext.trans HE.out hE5)
            have hm5 := hm5 m rfl
            have IHm := Lib.hid (fun W (hW : Ext w5 W) p cap (h1 : IntsAt W p o1) (h2 : o1.length ≤ cap) => show Calls Tryd.prog 40 #[.agg #[.int .i64 k, .int .i64 z], .slice a nl c, .slice p o1.length cap, .slice a5 L5.length c5, .int .i64 ((mm - N : Nat) : Int)] W (CoP k z l m (mm - N) W) from by
              have h3 := IHj.out m hx W (Ext.trans HE5.out hW) p a5 cap c5 (mm - N) h1 h2 (by rw [hm5]; exact hI5.ext hW) (by rw [hm5]; exact hc5) (by have := HM2.out; omega)
              rw [hm5, HNL.out] at h3
              exact h3)
            unfold CoP at IHm
            have HRm := Lib.hid (show min mm (cntP k z l n (j + 1)) = N + min (mm - N) (cnt k z l m) from by
              rw [cntP_succ, hx]
              have h1 := HNe.out
              have h2 := HM2.out
              show min mm (min (cntP k z l n j + cnt k z l m) 10001) = _
              omega)
            have hr1 : min (mm - N) (cnt k z l m) ≤ 10000 := by have := HM2.out; omega
            clear hm5 hI5 hc5 hE5 m0 m1 hx KF
            generalize min (mm - N) (cnt k z l m) = r1 at *
            go_wp2_with fail
            refine wp_region_tail (l1 := [_, _, _, _, _, _, _, _, _, _, _, _, _, _, _, _, _]) (l2 := [_, _]) (by kernel_rfl) Ext (fun W => Below.refl _ W) (fun W => show Below W.heap.size W { W with drawn := W.drawn + 1 } from ⟨rfl, rfl, rfl, Nat.le_refl _, fun _ _ => rfl⟩) Ext.trans
              (fun i s W => match i with
                | 0 => s 0 = .int .i64 (N : Int)
                | 1 => s 1 = .agg #[.int .i64 k, .int .i64 z]
                | 2 => s 2 = .slice a nl c
                | 3 => s 3 = .slice b lo d
                | 4 => s 4 = .slice b lo d
                | 5 => s 5 = .int .i64 (lo : Int)
                | 6 => s 6 = .slice b lo d
                | 7 => s 7 = .int .i64 (lo : Int)
                | 8 => s 8 = .slice b lo lo
                | 9 => s 9 = .int .i64 (j : Int)
                | 10 => ∃ g, s 10 = .slice (some ⟨g, 0, none⟩) 1 1 ∧ IntsAt W (some ⟨g, 0, none⟩) [(j : Int)]
                | 11 => ∃ p cap, s 11 = .slice p o1.length cap ∧ IntsAt W p o1 ∧ o1.length ≤ cap
                | 12 => s 12 = .slice a5 L5.length c5
                | 13 => s 13 = .int .i64 (mm : Int)
                | 14 => s 14 = .int .i64 (N : Int)
                | 15 => s 15 = .int .i64 ((mm - N : Nat) : Int)
                | 16 => s 16 = .int .i64 (r1 : Int)
                | _ => True)
              (fun i => [i])
              (by
                intro i s s' W W' h hs hE
                have hs := hs i (by simp)
                match i, h, hs with
                | 0, h, hs => exact hs.trans h
                | 1, h, hs => exact hs.trans h
                | 2, h, hs => exact hs.trans h
                | 3, h, hs => exact hs.trans h
                | 4, h, hs => exact hs.trans h
                | 5, h, hs => exact hs.trans h
                | 6, h, hs => exact hs.trans h
                | 7, h, hs => exact hs.trans h
                | 8, h, hs => exact hs.trans h
                | 9, h, hs => exact hs.trans h
                | 10, ⟨g, h, h1⟩, hs => exact ⟨g, hs.trans h, h1.ext hE⟩
                | 11, ⟨p, cap, h, h1, h2⟩, hs => exact ⟨p, cap, hs.trans h, h1.ext hE, h2⟩
                | 12, h, hs => exact hs.trans h
                | 13, h, hs => exact hs.trans h
                | 14, h, hs => exact hs.trans h
                | 15, h, hs => exact hs.trans h
                | 16, h, hs => exact hs.trans h
                | i + 17, h, hs => exact trivial)
              (by kernel_rfl) (by kernel_rfl) (by kernel_rfl) 60 rfl (by kernel_rfl) (by kernel_rfl) ?_ ?_
            · intro i op ho a' W hA
              obtain ⟨m0, m1⟩ := HMD.out W (Ext.trans HE5.out hA.rel)
              match i, ho with
              | 0, ho =>
                obtain rfl := Option.some.inj ho
                have e1 : a'.eval (.tmp 11) = .int .i64 (N : Int) := hA.keep 11 (by kernel_rfl)
                refine GoesG.value (.int .i64 (N : Int)) rfl ?_ (Below.refl _ _) (fun s h1 h2 => h1 rfl)
                simp only [execOp, e1]
                simp [go_sem, m0, m1]
              | 1, ho =>
                obtain rfl := Option.some.inj ho
                have e1 : a'.eval (.tmp 5) = .pointer (some ⟨w.heap.size, 0, none⟩) := hA.keep 5 (by kernel_rfl)
                refine GoesG.value (.agg #[.int .i64 k, .int .i64 z]) rfl ?_ (Below.refl _ _) (fun s h1 h2 => h1 rfl)
                simp only [execOp, e1]
                simp [go_sem, m0, m1]
              | 2, ho =>
                obtain rfl := Option.some.inj ho
                have e1 : a'.eval (.tmp 1) = .slice a nl c := hA.keep 1 (by kernel_rfl)
                refine GoesG.value (.slice a nl c) rfl ?_ (Below.refl _ _) (fun s h1 h2 => h1 rfl)
                simp only [execOp, e1]
                simp [go_sem, m0, m1]
              | 3, ho =>
                obtain rfl := Option.some.inj ho
                have e1 : a'.eval (.tmp 2) = .slice b lo d := hA.keep 2 (by kernel_rfl)
                refine GoesG.value (.slice b lo d) rfl ?_ (Below.refl _ _) (fun s h1 h2 => h1 rfl)
                simp only [execOp, e1]
                simp [go_sem, m0, m1]
              | 4, ho =>
                obtain rfl := Option.some.inj ho
                have e1 : a'.eval (.tmp 2) = .slice b lo d := hA.keep 2 (by kernel_rfl)
                refine GoesG.value (.slice b lo d) rfl ?_ (Below.refl _ _) (fun s h1 h2 => h1 rfl)
                simp only [execOp, e1]
                simp [go_sem, m0, m1]
              | 5, ho =>
                obtain rfl := Option.some.inj ho
                have e1 : a'.eval (.tmp 45) = .slice b lo d := (sv_dst (l := _) rfl).symm.trans (hA.new 4 (by decide) (by kernel_rfl))
                refine GoesG.value (.int .i64 (lo : Int)) rfl ?_ (Below.refl _ _) (fun s h1 h2 => h1 rfl)
                simp [Act.eval] at e1
                simp [execOp, go_sem, e1]
              | 6, ho =>
                obtain rfl := Option.some.inj ho
                have e1 : a'.eval (.tmp 2) = .slice b lo d := hA.keep 2 (by kernel_rfl)
                refine GoesG.value (.slice b lo d) rfl ?_ (Below.refl _ _) (fun s h1 h2 => h1 rfl)
                simp only [execOp, e1]
                simp [go_sem, m0, m1]
              | 7, ho =>
                obtain rfl := Option.some.inj ho
                have e1 : a'.eval (.tmp 47) = .slice b lo d := (sv_dst (l := _) rfl).symm.trans (hA.new 6 (by decide) (by kernel_rfl))
                refine GoesG.value (.int .i64 (lo : Int)) rfl ?_ (Below.refl _ _) (fun s h1 h2 => h1 rfl)
                simp [Act.eval] at e1
                simp [execOp, go_sem, e1]
              | 8, ho =>
                obtain rfl := Option.some.inj ho
                have e1 : a'.eval (.tmp 44) = .slice b lo d := (sv_dst (l := _) rfl).symm.trans (hA.new 3 (by decide) (by kernel_rfl))
                have e2 : a'.eval (.tmp 46) = .int .i64 (lo : Int) := (sv_dst (l := _) rfl).symm.trans (hA.new 5 (by decide) (by kernel_rfl))
                have e3 : a'.eval (.tmp 48) = .int .i64 (lo : Int) := (sv_dst (l := _) rfl).symm.trans (hA.new 7 (by decide) (by kernel_rfl))
                refine GoesG.value (.slice b lo lo) rfl ?_ (Below.refl _ _) (fun s h1 h2 => h1 rfl)
                simp [execOp, e1, e2, e3, slice_own _ _ _ _ hlod]
              | 9, ho =>
                obtain rfl := Option.some.inj ho
                have e1 : a'.eval (.tmp 12) = .int .i64 (j : Int) := hA.keep 12 (by kernel_rfl)
                refine GoesG.value (.int .i64 (j : Int)) rfl ?_ (Below.refl _ _) (fun s h1 h2 => h1 rfl)
                simp only [execOp, e1]
                simp [go_sem, m0, m1]
              | 10, ho =>
                obtain rfl := Option.some.inj ho
                have e1 : a'.eval (.tmp 50) = .int .i64 (j : Int) := (sv_dst (l := _) rfl).symm.trans (hA.new 9 (by decide) (by kernel_rfl))
                refine GoesG.value (W' := W.alloc (.cells #[.int .i64 (j : Int)] 3)) (.slice (some ⟨W.heap.size, 0, none⟩) 1 1) rfl ?_ (ext_allocN _ _) (fun s g1 g2 => ⟨W.heap.size, g1 rfl, ints_new W _⟩)
                simp [execOp, e1, build_one]
              | 11, ho =>
                obtain rfl := Option.some.inj ho
                have e1 : a'.eval (.tmp 49) = .slice b lo lo := (sv_dst (l := _) rfl).symm.trans (hA.new 8 (by decide) (by kernel_rfl))
                obtain ⟨g, e0, h1⟩ := hA.new 10 (by decide) (by kernel_rfl)
                have e2 : a'.eval (.tmp 51) = .slice (some ⟨g, 0, none⟩) 1 1 := (sv_dst (l := _) rfl).symm.trans e0
                obtain ⟨p, cap, W', hr, h2, h3, h4⟩ := HAPj.out W (Ext.trans HE5.out hA.rel) g h1
                exact GoesG.app2 rfl (.tmp 49) (.tmp 51) 27 rfl _ _ (.slice (some ⟨g, 0, none⟩) 1 1) e1 e2 hr h4 (fun s g1 g2 => ⟨p, cap, g1 rfl, h2, h3⟩)
              | 12, ho =>
                obtain rfl := Option.some.inj ho
                have e1 : a'.eval (.tmp 13) = .slice a5 L5.length c5 := hA.keep 13 (by kernel_rfl)
                refine GoesG.value (.slice a5 L5.length c5) rfl ?_ (Below.refl _ _) (fun s h1 h2 => h1 rfl)
                simp only [execOp, e1]
                simp [go_sem, m0, m1]
              | 13, ho =>
                obtain rfl := Option.some.inj ho
                have e1 : a'.eval (.tmp 4) = .int .i64 (mm : Int) := hA.keep 4 (by kernel_rfl)
                refine GoesG.value (.int .i64 (mm : Int)) rfl ?_ (Below.refl _ _) (fun s h1 h2 => h1 rfl)
                simp only [execOp, e1]
                simp [go_sem, m0, m1]
              | 14, ho =>
                obtain rfl := Option.some.inj ho
                have e1 : a'.eval (.tmp 11) = .int .i64 (N : Int) := hA.keep 11 (by kernel_rfl)
                refine GoesG.value (.int .i64 (N : Int)) rfl ?_ (Below.refl _ _) (fun s h1 h2 => h1 rfl)
                simp only [execOp, e1]
                simp [go_sem, m0, m1]
              | 15, ho =>
                obtain rfl := Option.some.inj ho
                have e1 : a'.eval (.tmp 54) = .int .i64 (mm : Int) := (sv_dst (l := _) rfl).symm.trans (hA.new 13 (by decide) (by kernel_rfl))
                have e2 : a'.eval (.tmp 55) = .int .i64 (N : Int) := (sv_dst (l := _) rfl).symm.trans (hA.new 14 (by decide) (by kernel_rfl))
                refine GoesG.value (.int .i64 ((mm - N : Nat) : Int)) rfl ?_ (Below.refl _ _) (fun s h1 h2 => h1 rfl)
                simp [Act.eval] at e1 e2
                simp [execOp, go_sem, e1, e2]
                exact wrap_sub hNm hmm
              | 16, ho =>
                obtain rfl := Option.some.inj ho
                obtain ⟨p, cap, e0, h1, h2⟩ := hA.new 11 (by decide) (by kernel_rfl)
                have e1 : a'.eval (.tmp 42) = .agg #[.int .i64 k, .int .i64 z] := (sv_dst (l := _) rfl).symm.trans (hA.new 1 (by decide) (by kernel_rfl))
                have e2 : a'.eval (.tmp 43) = .slice a nl c := (sv_dst (l := _) rfl).symm.trans (hA.new 2 (by decide) (by kernel_rfl))
                have e3 : a'.eval (.tmp 52) = .slice p o1.length cap := (sv_dst (l := _) rfl).symm.trans e0
                have e4 : a'.eval (.tmp 53) = .slice a5 L5.length c5 := (sv_dst (l := _) rfl).symm.trans (hA.new 12 (by decide) (by kernel_rfl))
                have e5 : a'.eval (.tmp 56) = .int .i64 ((mm - N : Nat) : Int) := (sv_dst (l := _) rfl).symm.trans (hA.new 15 (by decide) (by kernel_rfl))
                refine GoesG.call 40 #[.agg #[.int .i64 k, .int .i64 z], .slice a nl c, .slice p o1.length cap, .slice a5 L5.length c5, .int .i64 ((mm - N : Nat) : Int)] rfl ?_ ?_
                · have en := enters_fn Tryd.func40 (by kernel_rfl) rfl
                  simp [Act.eval] at e1 e2 e3 e4 e5
                  simp [execOp, go_sem, e1, e2, e3, e4, e5, en]
                · refine (IHm.out W hA.rel p cap h1 h2).mono ?_
                  rintro e W2 ⟨rfl, g3⟩
                  exact ⟨_, rfl, g3, fun s q1 q2 => q1 rfl⟩
              | i + 17, ho => cases ho
            · intro vs w4 hvs hG hΦ
              obtain ⟨y0, y1, y2, y3, y4, y5, y6, y7, y8, y9, y10, y11, y12, y13, y14, y15, y16, rfl⟩ : ∃ y0 y1 y2 y3 y4 y5 y6 y7 y8 y9 y10 y11 y12 y13 y14 y15 y16, vs = y0 :: y1 :: y2 :: y3 :: y4 :: y5 :: y6 :: y7 :: y8 :: y9 :: y10 :: y11 :: y12 :: y13 :: y14 :: y15 :: y16 :: [] := by
                match vs, hvs with
                | y0 :: y1 :: y2 :: y3 :: y4 :: y5 :: y6 :: y7 :: y8 :: y9 :: y10 :: y11 :: y12 :: y13 :: y14 :: y15 :: y16 :: [], _ => exact ⟨y0, y1, y2, y3, y4, y5, y6, y7, y8, y9, y10, y11, y12, y13, y14, y15, y16, rfl⟩
              have e0 : y0 = .int .i64 (N : Int) := hΦ 0 (by decide)
              subst e0
              have e1 : y1 = .agg #[.int .i64 k, .int .i64 z] := hΦ 1 (by decide)
              subst e1
              have e2 : y2 = .slice a nl c := hΦ 2 (by decide)
              subst e2
              have e3 : y3 = .slice b lo d := hΦ 3 (by decide)
              subst e3
              have e4 : y4 = .slice b lo d := hΦ 4 (by decide)
              subst e4
              have e5 : y5 = .int .i64 (lo : Int) := hΦ 5 (by decide)
              subst e5
              have e6 : y6 = .slice b lo d := hΦ 6 (by decide)
              subst e6
              have e7 : y7 = .int .i64 (lo : Int) := hΦ 7 (by decide)
              subst e7
              have e8 : y8 = .slice b lo lo := hΦ 8 (by decide)
              subst e8
              have e9 : y9 = .int .i64 (j : Int) := hΦ 9 (by decide)
              subst e9
              have p10 : ∃ g, y10 = .slice (some ⟨g, 0, none⟩) 1 1 ∧ IntsAt w4 (some ⟨g, 0, none⟩) [(j : Int)] := hΦ 10 (by decide)
              have p11 : ∃ p cap, y11 = .slice p o1.length cap ∧ IntsAt w4 p o1 ∧ o1.length ≤ cap := hΦ 11 (by decide)
              have e12 : y12 = .slice a5 L5.length c5 := hΦ 12 (by decide)
              subst e12
              have e13 : y13 = .int .i64 (mm : Int) := hΦ 13 (by decide)
              subst e13
              have e14 : y14 = .int .i64 (N : Int) := hΦ 14 (by decide)
              subst e14
              have e15 : y15 = .int .i64 ((mm - N : Nat) : Int) := hΦ 15 (by decide)
              subst e15
              have e16 : y16 = .int .i64 (r1 : Int) := hΦ 16 (by decide)
              subst e16
              clear hΦ hvs
              simp only [putAll, Act.put, List.setIfInBounds_toArray, List.set_cons_succ, List.set_cons_zero]
              try simp only [putAll, Act.put, List.setIfInBounds_toArray, List.set_cons_succ, List.set_cons_zero]
              obtain ⟨w7, rfl⟩ : ∃ W, W = w4 := ⟨_, rfl⟩
              have HE7 := Lib.hid (Ext.trans HE5.out (show Ext w5 w7 from hG))
              clear hG p10 p11
              go_wp2
              exact ⟨⟨j + 1, by omega, by rw [HRm.out]; go_num, by go_num, HE7.out⟩, by simp [intOf]; omega⟩
        · have hjl : nl = j := by omega
          subst hjl
          have HRv := Lib.hid (show R = N from by have h1 := HRN.out; have h2 := HNe.out; have h3 := HDE.out; rw [h3] at h1; rw [← h1]; exact h2)
          go_wp2
          go_ret
          exact ⟨by rw [HRv.out]; rfl, Ext.trans HX.out HE.out⟩
end Go.Proofs.YtmbkjccckmlacaaDoor

namespace Go.Proofs.YtmbkjccckmlacaaDoor
open Go.RowKit
set_option linter.unusedVariables false
set_option linter.unusedSimpArgs false

/-- what longest gives -/
def LoP (k z : Int) (l : List Cl) (n : Nd) (o : List Int) (W : World) (e : Ending) (W' : World) : Prop := ∃ (a : Option Addr) (c : Nat), e = .returned (.slice a (o ++ (expN k z l n).map Int.ofNat).length c) ∧ IntsAt W' a (o ++ (expN k z l n).map Int.ofNat) ∧ (o ++ (expN k z l n).map Int.ofNat).length ≤ c ∧ Ext W W'
set_option maxRecDepth 100000 in
set_option maxHeartbeats 8000000 in
theorem refLongest_ind (k z : Int) (l : List Cl) (a : Option Addr) (c : Nat) (hm : mdE k z = 0) (hl : l.length ≤ 12) : ∀ (f : Nat) (n : Nd) (o : List Int) (b s : Option Addr) (d cs : Nat) (w : World), lft l n < f → o.length + lft l n ≤ 12 → OnP l n o → (o ≠ [] ∨ b = none) → stR k z n.2 = true → HsAt w a l → IntsAt w b o → o.length ≤ d → IntsAt w s n.2 → n.2.length ≤ cs → 
    Calls Tryd.prog 43 #[.agg #[.int .i64 k, .int .i64 z], .slice a l.length c, .slice b o.length d, .slice s n.2.length cs] w (LoP k z l n o w)
  | 0, n, o, b, s, d, cs, w, hf, _, _, _, _, _, _, _, _, _ => by omega
  | f + 1, n, o, b, s, d, cs, w, hf, hlo, hO, hb, hst, h, hI, hod, hS, hsc => by
    obtain ⟨hk1, hk6⟩ := mdE_k hm
    have HX := Lib.hid (ext_allocN w (.cells #[.int .i64 k, .int .i64 z] 23))
    have HMD := Lib.hid (mdCells w k z)
    obtain ⟨wk, hwk⟩ : ∃ W, W = w.alloc (.cells #[.int .i64 k, .int .i64 z] 23) := ⟨_, rfl⟩
    have hwk' := hwk.symm
    rw [hwk'] at HX HMD
    clear hwk
    obtain ⟨m0, m1⟩ := HMD.out wk (Below.refl _ _)
    have KFU := Lib.hid (fun W (hW : Ext wk W) => show Gives Tryd.prog 46 #[.slice a l.length c, .slice b o.length d] W (.bool (cmpl l n)) from by rw [← hO.full]; exact refFull_any l o a b c d W (by omega) (by omega) (h.ext (Ext.trans HX.out hW)) (hI.ext (Ext.trans HX.out hW)))
    have KFO := Lib.hid (fun q (hq : q < l.length) W (hW : Ext wk W) => refFollow_any k z l n o q a b s c d cs W hm hq hl (by omega) hO hst (h.ext (Ext.trans HX.out hW)) (hI.ext (Ext.trans HX.out hW)) (hS.ext (Ext.trans HX.out hW)) hsc)
    have IH := Lib.hid (fun q m (hx : nxt k z l n q = some m) W (hW : Ext wk W) p s5 cap c5 (h1 : IntsAt W p (o ++ [(q : Int)])) (h2 : (o ++ [(q : Int)]).length ≤ cap) (h3 : IntsAt W s5 m.2) (h4 : m.2.length ≤ c5) => refLongest_ind k z l a c hm hl f m (o ++ [(q : Int)]) p s5 cap c5 W (by have := nxt_lft hx; omega) (by have := nxt_lft hx; rw [List.length_append]; simp only [List.length_cons, List.length_nil]; omega) (hO.step hx) (.inl (by simp)) (gd_next hk1 hk6 hst hx) (h.ext (Ext.trans HX.out hW)) h1 h2 h3 h4)
    have HAP := Lib.hid (fun (q : Nat) W (hW : Ext wk W) g (hg : IntsAt W (some ⟨g, 0, none⟩) [(q : Int)]) => int_app_row W b o g q (hI.ext (Ext.trans HX.out hW)) hb hg (by omega))
    have HII := Lib.hid (fun W (hW : Ext w W) => hI.ext hW)
    have HLD := Lib.hid (fun B (h : LB k z l n l.length B) => h.done)
    have HL0 := Lib.hid (show LB k z l n 0 [] from .inl ⟨rfl, rfl⟩)
    unfold LoP
    obtain ⟨R, hR⟩ : ∃ R, o ++ (expN k z l n).map Int.ofNat = R := ⟨_, rfl⟩
    have HR := Lib.hid hR
    rw [hR]
    clear hR KFU
    obtain ⟨nl, hnl⟩ : ∃ nl, l.length = nl := ⟨_, rfl⟩
    have HNL := Lib.hid hnl
    obtain ⟨lo, hlo'⟩ : ∃ lo, o.length = lo := ⟨_, rfl⟩
    have HLO := Lib.hid hlo'
    have hlod : lo ≤ d := by omega
    rw [hnl] at KFO HLD hl
    rw [hlo'] at KFO
    rw [hnl, hlo']
    clear hnl hlo' hO hb hst h hI hS hsc hf hlo hm m0 m1
    go_enter Tryd.func43, Tryd.ntmps43
    go_wp2_with fail
    try rw [hwk']
    go_loopw [9, 10] (fun t i wr => ∃ j : Nat, j ≤ nl ∧ ∃ (B : List Nat) (a9 : Option Addr) (c9 : Nat), LB k z l n j B ∧ t = .slice a9 (o ++ B.map Int.ofNat).length c9 ∧ IntsAt wr a9 (o ++ B.map Int.ofNat) ∧ (o ++ B.map Int.ofNat).length ≤ c9 ∧ i = .int .i64 (j : Int) ∧ Ext wk wr) (fun _ i _ => nl - (intOf i).toNat)
    case atStart => exact ⟨0, Nat.zero_le _, [], b, d, HL0.out, by simp [HLO.out], by simpa using HII.out wk HX.out, by simpa [HLO.out] using hlod, rfl, Below.refl _ _⟩
    case round =>
      obtain ⟨j, hj, B, a9, c9, hlb, rfl, hI9, hc9, rfl, hEr⟩ := hrel
      have HE := Lib.hid hEr
      have HLB := Lib.hid hlb
      obtain ⟨T, hT⟩ : ∃ T, o ++ B.map Int.ofNat = T := ⟨_, rfl⟩
      have HT := Lib.hid hT
      obtain ⟨lt, hlt9⟩ : ∃ x, T.length = x := ⟨_, rfl⟩
      have HLT := Lib.hid hlt9
      rw [hT] at hI9 hc9 ⊢
      rw [hlt9] at hc9 ⊢
      clear hlt9
      have HI9 := Lib.hid (fun W (hW : Ext wr W) => hI9.ext hW)
      have HC9 := Lib.hid hc9
      clear hEr hlb hT hI9 hc9
      by_cases hlt : j < nl
      · have hjl : j < l.length := by rw [HNL.out]; exact hlt
        have hi0 : (0 : Int) ≤ (j : Int) := by omega
        have hi1 : (j : Int) < (nl : Int) := by omega
        have KF := Lib.hid (KFO.out j hlt wr HE.out)
        unfold FoP at KF
        have HAPj := Lib.hid (HAP.out j)
        rw [HLO.out] at HAPj
        have IHj := Lib.hid (IH.out j)
        obtain ⟨o1, ho1⟩ : ∃ o1, o ++ [(j : Int)] = o1 := ⟨_, rfl⟩
        have HO1 := Lib.hid ho1
        rw [ho1] at HAPj IHj
        clear ho1
        obtain ⟨m0, m1⟩ := HMD.out wr HE.out
        cases hx : nxt k z l n j with
        | none =>
          rw [hx] at KF
          go_wp2_with fail
          refine KF.out.mono ?_
          rintro e w5 ⟨a5, L5, c5, rfl, hI5, hc5, hE5, -⟩
          have HW5 := Lib.hid (show Ext wr w5 from hE5)
          have HE5 := Lib.hid (Ext.trans HE.out hE5)
          clear hE5 hI5 hc5 m0 m1
          have HLK := Lib.hid (HLB.out.none hx)
          clear hx KF
          go_wp2
          exact ⟨⟨j + 1, by omega, B, a9, c9, HLK.out, by rw [HT.out, HLT.out], by rw [HT.out]; exact HI9.out w5 HW5.out, by rw [HT.out, HLT.out]; exact HC9.out, by go_num, HE5.out⟩, by simp [intOf]; omega⟩
        | some m =>
          rw [hx] at KF
          go_wp2_with fail
          refine KF.out.mono ?_
          rintro e w5 ⟨a5, L5, c5, rfl, hI5, hc5, hE5, hm5⟩
          have HW5 := Lib.hid (show Ext wr w5 from hE5)
          have HE5 := Lib.hid (Ext.trans HE.out hE5)
          have hm5 := hm5 m rfl
          have IHm := Lib.hid (fun W (hW : Ext w5 W) p cap (h1 : IntsAt W p o1) (h2 : o1.length ≤ cap) => show Calls Tryd.prog 43 #[.agg #[.int .i64 k, .int .i64 z], .slice a nl c, .slice p o1.length cap, .slice a5 L5.length c5] W (LoP k z l m o1 W) from by
            have h3 := IHj.out m hx W (Ext.trans HE5.out hW) p a5 cap c5 h1 h2 (by rw [hm5]; exact hI5.ext hW) (by rw [hm5]; exact hc5)
            rw [hm5, HNL.out] at h3
            exact h3)
          unfold LoP at IHm
          have HNEW := Lib.hid (fun (h : T.length < (o1 ++ (expN k z l m).map Int.ofNat).length) => show LB k z l n (j + 1) (j :: expN k z l m) from LB.new hx (by
            have h1 := HLB.out.len
            have h2 := expN_len (k := k) (z := z) (l := l) (n := m)
            rw [← HT.out, ← HO1.out] at h
            simp only [List.length_append, List.length_map, List.length_cons, List.length_nil] at h
            omega))
          have HKEEP := Lib.hid (fun (h : ¬ T.length < (o1 ++ (expN k z l m).map Int.ofNat).length) => show LB k z l n (j + 1) B from HLB.out.keep hx (by
            have h1 := HLB.out.len
            have h2 := expN_len (k := k) (z := z) (l := l) (n := m)
            rw [← HT.out, ← HO1.out] at h
            simp only [List.length_append, List.length_map, List.length_cons, List.length_nil] at h
            omega))
          have HRE := Lib.hid (show o ++ (j :: expN k z l m).map Int.ofNat = o1 ++ (expN k z l m).map Int.ofNat from by rw [← HO1.out]; simp)
          clear hm5 hI5 hc5 hE5 m0 m1 hx KF
          generalize o1 ++ (expN k z l m).map Int.ofNat = R1 at *
          go_wp2_with fail
          refine wp_region_tail (l1 := [_, _, _, _, _, _, _, _, _, _, _, _, _]) (l2 := [_]) (by kernel_rfl) Ext (fun W => Below.refl _ W) (fun W => show Below W.heap.size W { W with drawn := W.drawn + 1 } from ⟨rfl, rfl, rfl, Nat.le_refl _, fun _ _ => rfl⟩) Ext.trans
            (fun i s W => match i with
              | 0 => s 0 = .agg #[.int .i64 k, .int .i64 z]
              | 1 => s 1 = .slice a nl c
              | 2 => s 2 = .slice b lo d
              | 3 => s 3 = .slice b lo d
              | 4 => s 4 = .int .i64 (lo : Int)
              | 5 => s 5 = .slice b lo d
              | 6 => s 6 = .int .i64 (lo : Int)
              | 7 => s 7 = .slice b lo lo
              | 8 => s 8 = .int .i64 (j : Int)
              | 9 => ∃ g, s 9 = .slice (some ⟨g, 0, none⟩) 1 1 ∧ IntsAt W (some ⟨g, 0, none⟩) [(j : Int)]
              | 10 => ∃ p cap, s 10 = .slice p o1.length cap ∧ IntsAt W p o1 ∧ o1.length ≤ cap
              | 11 => s 11 = .slice a5 L5.length c5
              | 12 => ∃ a1 cc1, s 12 = .slice a1 R1.length cc1 ∧ IntsAt W a1 R1 ∧ R1.length ≤ cc1
              | _ => True)
            (fun i => [i])
            (by
              intro i s s' W W' h hs hE
              have hs := hs i (by simp)
              match i, h, hs with
              | 0, h, hs => exact hs.trans h
              | 1, h, hs => exact hs.trans h
              | 2, h, hs => exact hs.trans h
              | 3, h, hs => exact hs.trans h
              | 4, h, hs => exact hs.trans h
              | 5, h, hs => exact hs.trans h
              | 6, h, hs => exact hs.trans h
              | 7, h, hs => exact hs.trans h
              | 8, h, hs => exact hs.trans h
              | 9, ⟨g, h, h1⟩, hs => exact ⟨g, hs.trans h, h1.ext hE⟩
              | 10, ⟨p, cap, h, h1, h2⟩, hs => exact ⟨p, cap, hs.trans h, h1.ext hE, h2⟩
              | 11, h, hs => exact hs.trans h
              | 12, ⟨a1, cc1, h, h1, h2⟩, hs => exact ⟨a1, cc1, hs.trans h, h1.ext hE, h2⟩
              | i + 13, h, hs => exact trivial)
            (by kernel_rfl) (by kernel_rfl) (by kernel_rfl) 51 rfl (by kernel_rfl) (by kernel_rfl) ?_ ?_
          · intro i op ho a' W hA
            obtain ⟨m0, m1⟩ := HMD.out W (Ext.trans HE5.out hA.rel)
            match i, ho with
            | 0, ho =>
              obtain rfl := Option.some.inj ho
              have e1 : a'.eval (.tmp 4) = .pointer (some ⟨w.heap.size, 0, none⟩) := hA.keep 4 (by kernel_rfl)
              refine GoesG.value (.agg #[.int .i64 k, .int .i64 z]) rfl ?_ (Below.refl _ _) (fun s h1 h2 => h1 rfl)
              simp only [execOp, e1]
              simp [go_sem, m0, m1]
            | 1, ho =>
              obtain rfl := Option.some.inj ho
              have e1 : a'.eval (.tmp 1) = .slice a nl c := hA.keep 1 (by kernel_rfl)
              refine GoesG.value (.slice a nl c) rfl ?_ (Below.refl _ _) (fun s h1 h2 => h1 rfl)
              simp only [execOp, e1]
              simp [go_sem, m0, m1]
            | 2, ho =>
              obtain rfl := Option.some.inj ho
              have e1 : a'.eval (.tmp 2) = .slice b lo d := hA.keep 2 (by kernel_rfl)
              refine GoesG.value (.slice b lo d) rfl ?_ (Below.refl _ _) (fun s h1 h2 => h1 rfl)
              simp only [execOp, e1]
              simp [go_sem, m0, m1]
            | 3, ho =>
              obtain rfl := Option.some.inj ho
              have e1 : a'.eval (.tmp 2) = .slice b lo d := hA.keep 2 (by kernel_rfl)
              refine GoesG.value (.slice b lo d) rfl ?_ (Below.refl _ _) (fun s h1 h2 => h1 rfl)
              simp only [execOp, e1]
              simp [go_sem, m0, m1]
            | 4, ho =>
              obtain rfl := Option.some.inj ho
              have e1 : a'.eval (.tmp 34) = .slice b lo d := (sv_dst (l := _) rfl).symm.trans (hA.new 3 (by decide) (by kernel_rfl))
              refine GoesG.value (.int .i64 (lo : Int)) rfl ?_ (Below.refl _ _) (fun s h1 h2 => h1 rfl)
              simp [Act.eval] at e1
              simp [execOp, go_sem, e1]
            | 5, ho =>
              obtain rfl := Option.some.inj ho
              have e1 : a'.eval (.tmp 2) = .slice b lo d := hA.keep 2 (by kernel_rfl)
              refine GoesG.value (.slice b lo d) rfl ?_ (Below.refl _ _) (fun s h1 h2 => h1 rfl)
              simp only [execOp, e1]
              simp [go_sem, m0, m1]
            | 6, ho =>
              obtain rfl := Option.some.inj ho
              have e1 : a'.eval (.tmp 36) = .slice b lo d := (sv_dst (l := _) rfl).symm.trans (hA.new 5 (by decide) (by kernel_rfl))
              refine GoesG.value (.int .i64 (lo : Int)) rfl ?_ (Below.refl _ _) (fun s h1 h2 => h1 rfl)
              simp [Act.eval] at e1
              simp [execOp, go_sem, e1]
            | 7, ho =>
              obtain rfl := Option.some.inj ho
              have e1 : a'.eval (.tmp 33) = .slice b lo d := (sv_dst (l := _) rfl).symm.trans (hA.new 2 (by decide) (by kernel_rfl))
              have e2 : a'.eval (.tmp 35) = .int .i64 (lo : Int) := (sv_dst (l := _) rfl).symm.trans (hA.new 4 (by decide) (by kernel_rfl))
              have e3 : a'.eval (.tmp 37) = .int .i64 (lo : Int) := (sv_dst (l := _) rfl).symm.trans (hA.new 6 (by decide) (by kernel_rfl))
              refine GoesG.value (.slice b lo lo) rfl ?_ (Below.refl _ _) (fun s h1 h2 => h1 rfl)
              simp [execOp, e1, e2, e3, slice_own _ _ _ _ hlod]
            | 8, ho =>
              obtain rfl := Option.some.inj ho
              have e1 : a'.eval (.tmp 10) = .int .i64 (j : Int) := hA.keep 10 (by kernel_rfl)
              refine GoesG.value (.int .i64 (j : Int)) rfl ?_ (Below.refl _ _) (fun s h1 h2 => h1 rfl)
              simp only [execOp, e1]
              simp [go_sem, m0, m1]
            | 9, ho =>
              obtain rfl := Option.some.inj ho
              have e1 : a'.eval (.tmp 39) = .int .i64 (j : Int) := (sv_dst (l := _) rfl).symm.trans (hA.new 8 (by decide) (by kernel_rfl))
              refine GoesG.value (W' := W.alloc (.cells #[.int .i64 (j : Int)] 3)) (.slice (some ⟨W.heap.size, 0, none⟩) 1 1) rfl ?_ (ext_allocN _ _) (fun s g1 g2 => ⟨W.heap.size, g1 rfl, ints_new W _⟩)
              simp [execOp, e1, build_one]
            | 10, ho =>
              obtain rfl := Option.some.inj ho
              have e1 : a'.eval (.tmp 38) = .slice b lo lo := (sv_dst (l := _) rfl).symm.trans (hA.new 7 (by decide) (by kernel_rfl))
              obtain ⟨g, e0, h1⟩ := hA.new 9 (by decide) (by kernel_rfl)
              have e2 : a'.eval (.tmp 40) = .slice (some ⟨g, 0, none⟩) 1 1 := (sv_dst (l := _) rfl).symm.trans e0
              obtain ⟨p, cap, W', hr, h2, h3, h4⟩ := HAPj.out W (Ext.trans HE5.out hA.rel) g h1
              exact GoesG.app2 rfl (.tmp 38) (.tmp 40) 27 rfl _ _ (.slice (some ⟨g, 0, none⟩) 1 1) e1 e2 hr h4 (fun s g1 g2 => ⟨p, cap, g1 rfl, h2, h3⟩)
            | 11, ho =>
              obtain rfl := Option.some.inj ho
              have e1 : a'.eval (.tmp 11) = .slice a5 L5.length c5 := hA.keep 11 (by kernel_rfl)
              refine GoesG.value (.slice a5 L5.length c5) rfl ?_ (Below.refl _ _) (fun s h1 h2 => h1 rfl)
              simp only [execOp, e1]
              simp [go_sem, m0, m1]
            | 12, ho =>
              obtain rfl := Option.some.inj ho
              obtain ⟨p, cap, e0, h1, h2⟩ := hA.new 10 (by decide) (by kernel_rfl)
              have e1 : a'.eval (.tmp 31) = .agg #[.int .i64 k, .int .i64 z] := (sv_dst (l := _) rfl).symm.trans (hA.new 0 (by decide) (by kernel_rfl))
              have e2 : a'.eval (.tmp 32) = .slice a nl c := (sv_dst (l := _) rfl).symm.trans (hA.new 1 (by decide) (by kernel_rfl))
              have e3 : a'.eval (.tmp 41) = .slice p o1.length cap := (sv_dst (l := _) rfl).symm.trans e0
              have e4 : a'.eval (.tmp 42) = .slice a5 L5.length c5 := (sv_dst (l := _) rfl).symm.trans (hA.new 11 (by decide) (by kernel_rfl))
              refine GoesG.call 43 #[.agg #[.int .i64 k, .int .i64 z], .slice a nl c, .slice p o1.length cap, .slice a5 L5.length c5] rfl ?_ ?_
              · have en := enters_fn Tryd.func43 (by kernel_rfl) rfl
                simp [Act.eval] at e1 e2 e3 e4
                simp [execOp, go_sem, e1, e2, e3, e4, en]
              · refine (IHm.out W hA.rel p cap h1 h2).mono ?_
                rintro e W2 ⟨a1, cc1, rfl, g1, g2, g3⟩
                exact ⟨_, rfl, g3, fun s q1 q2 => ⟨a1, cc1, q1 rfl, g1, g2⟩⟩
            | i + 13, ho => cases ho
          · intro vs w4 hvs hG hΦ
            obtain ⟨y0, y1, y2, y3, y4, y5, y6, y7, y8, y9, y10, y11, y12, rfl⟩ : ∃ y0 y1 y2 y3 y4 y5 y6 y7 y8 y9 y10 y11 y12, vs = y0 :: y1 :: y2 :: y3 :: y4 :: y5 :: y6 :: y7 :: y8 :: y9 :: y10 :: y11 :: y12 :: [] := by
              match vs, hvs with
              | y0 :: y1 :: y2 :: y3 :: y4 :: y5 :: y6 :: y7 :: y8 :: y9 :: y10 :: y11 :: y12 :: [], _ => exact ⟨y0, y1, y2, y3, y4, y5, y6, y7, y8, y9, y10, y11, y12, rfl⟩
            have e0 : y0 = .agg #[.int .i64 k, .int .i64 z] := hΦ 0 (by decide)
            subst e0
            have e1 : y1 = .slice a nl c := hΦ 1 (by decide)
            subst e1
            have e2 : y2 = .slice b lo d := hΦ 2 (by decide)
            subst e2
            have e3 : y3 = .slice b lo d := hΦ 3 (by decide)
            subst e3
            have e4 : y4 = .int .i64 (lo : Int) := hΦ 4 (by decide)
            subst e4
            have e5 : y5 = .slice b lo d := hΦ 5 (by decide)
            subst e5
            have e6 : y6 = .int .i64 (lo : Int) := hΦ 6 (by decide)
            subst e6
            have e7 : y7 = .slice b lo lo := hΦ 7 (by decide)
            subst e7
            have e8 : y8 = .int .i64 (j : Int) := hΦ 8 (by decide)
            subst e8
            have p9 : ∃ g, y9 = .slice (some ⟨g, 0, none⟩) 1 1 ∧ IntsAt w4 (some ⟨g, 0, none⟩) [(j : Int)] := hΦ 9 (by decide)
            have p10 : ∃ p cap, y10 = .slice p o1.length cap ∧ IntsAt w4 p o1 ∧ o1.length ≤ cap := hΦ 10 (by decide)
            have e11 : y11 = .slice a5 L5.length c5 := hΦ 11 (by decide)
            subst e11
            have p12 : ∃ a1 cc1, y12 = .slice a1 R1.length cc1 ∧ IntsAt w4 a1 R1 ∧ R1.length ≤ cc1 := hΦ 12 (by decide)
            clear hΦ hvs
            simp only [putAll, Act.put, List.setIfInBounds_toArray, List.set_cons_succ, List.set_cons_zero]
            try simp only [putAll, Act.put, List.setIfInBounds_toArray, List.set_cons_succ, List.set_cons_zero]
            obtain ⟨a7, c7, h7, hI7, hc7⟩ := p12
            subst h7
            obtain ⟨w7, rfl⟩ : ∃ W, W = w4 := ⟨_, rfl⟩
            have HX7 := Lib.hid (show Ext w5 w7 from hG)
            have HE7 := Lib.hid (Ext.trans HE5.out HX7.out)
            obtain ⟨lr, hlr⟩ : ∃ x, R1.length = x := ⟨_, rfl⟩
            have HLR := Lib.hid hlr
            rw [hlr] at hc7 ⊢
            have HI7 := Lib.hid hI7
            have HC7 := Lib.hid hc7
            clear hG p9 p10 hI7 hc7 hlr
            by_cases hgt : lt < lr
            · have d7 : decide ((lt : Int) < (lr : Int)) = true := by simp; omega
              have d8 : decide (lt < lr) = true := by simpa using hgt
              have HLN := Lib.hid (HNEW.out (by rw [HLT.out, HLR.out]; exact hgt))
              clear hgt
              go_wp2
              exact ⟨⟨j + 1, by omega, _, a7, c7, HLN.out, by rw [HRE.out, HLR.out], by rw [HRE.out]; exact HI7.out, by rw [HRE.out, HLR.out]; exact HC7.out, by go_num, HE7.out⟩, by simp [intOf]; omega⟩
            · have d7 : decide ((lt : Int) < (lr : Int)) = false := by simp; omega
              have d8 : decide (lt < lr) = false := by simpa using hgt
              have HLK := Lib.hid (HKEEP.out (by rw [HLT.out, HLR.out]; exact hgt))
              clear hgt
              go_wp2
              exact ⟨⟨j + 1, by omega, B, a9, c9, HLK.out, by rw [HT.out, HLT.out], by rw [HT.out]; exact HI9.out w7 (Ext.trans HW5.out HX7.out), by rw [HT.out, HLT.out]; exact HC9.out, by go_num, HE7.out⟩, by simp [intOf]; omega⟩
      · have hjl : nl = j := by omega
        subst hjl
        have HRv := Lib.hid (show R = T from by rw [← HR.out, ← HT.out, ← HLD.out B HLB.out])
        go_wp2
        go_ret
        exact ⟨a9, c9, by rw [HRv.out, HLT.out]; rfl, by rw [HRv.out]; exact HI9.out _ (Below.refl _ _), by rw [HRv.out, HLT.out]; exact HC9.out, Ext.trans HX.out HE.out⟩
end Go.Proofs.YtmbkjccckmlacaaDoor

namespace Go.Proofs.YtmbkjccckmlacaaDoor
open Go.RowKit
set_option linter.unusedVariables false
set_option linter.unusedSimpArgs false

def RsP (w : World) (R : List Nat × Bool × Int) (e : Ending) (w' : World) : Prop := ∃ (a : Option Addr) (c : Nat), e = .returned (.tuple #[.slice a (R.1.map Int.ofNat).length c, .bool R.2.1, .int .i64 R.2.2]) ∧ IntsAt w' a (R.1.map Int.ofNat) ∧ (R.1.map Int.ofNat).length ≤ c ∧ Ext w w'
theorem srh_sf {k z : Int} {l : List Cl} (h : srE k z l = 0) : (srhR k z l).1.map Int.ofNat = sfR k z l (beg0 k) [] ∧ (srhR k z l).2.1 = decide (0 < cnt k z l (beg0 k)) ∧ (srhR k z l).2.2 = 0 := by
  unfold srhR sfR
  rw [if_neg (by simpa using h), serR_N]
  by_cases hc : cnt k z l (beg0 k) = 0
  · rw [if_pos hc, if_neg (by omega)]
    exact ⟨rfl, by simp; omega, rfl⟩
  · rw [if_neg hc, if_pos (by omega)]
    exact ⟨rfl, by simp; omega, rfl⟩
set_option maxRecDepth 100000 in
set_option maxHeartbeats 4000000 in
theorem rfSearch_any (k z : Int) (l : List Cl) (a : Option Addr) (c : Nat) (w : World) (hm : l.length ≤ maxLen) (h : HsAt w a l) :
    Calls Tryd.prog 15 #[.agg #[.int .i64 k, .int .i64 z], .slice a l.length c] w (RsP w (srhR k z l)) := by
  unfold RsP
  have HX := Lib.hid (ext_allocN w (.cells #[.int .i64 k, .int .i64 z] 23))
  have HMD := Lib.hid (mdCells w k z)
  obtain ⟨wk, hwk⟩ : ∃ W, W = w.alloc (.cells #[.int .i64 k, .int .i64 z] 23) := ⟨_, rfl⟩
  have hwk' := hwk.symm
  rw [hwk'] at HX HMD
  clear hwk
  obtain ⟨m0, m1⟩ := HMD.out wk (Below.refl _ _)
  have KC := Lib.hid (fun W (hW : Ext wk W) => refCk_any k z l a c W hm (h.ext (Ext.trans HX.out hW)))
  by_cases hb : srE k z l = 0
  · obtain ⟨hmd, hck, hl⟩ := srE_parts hb
    rw [hb] at KC
    obtain ⟨e1, e2, e3⟩ := srh_sf hb
    rw [e1, e2, e3]
    have KI := Lib.hid (fun W => show Calls Tryd.prog 28 #[.agg #[.int .i64 k, .int .i64 z]] W (fun e w' => ∃ v, e = .returned v ∧ RowI W.heap.size v (beg0 k).2 w' ∧ Ext W w') from by rw [show (beg0 k).2 = rIni k from (rIni_eq hmd).symm]; exact refInitial_any k z W)
    have KS := Lib.hid (fun W (hW : Ext wk W) s cs (h3 : IntsAt W s (beg0 k).2) (h4 : (beg0 k).2.length ≤ cs) => show Calls Tryd.prog 37 #[.agg #[.int .i64 k, .int .i64 z], .slice a l.length c, .slice none 0 0, .slice s (beg0 k).2.length cs] W (SfP k z l (beg0 k) [] W) from refSearch_ind k z l a c hmd hl (lft l (beg0 k) + 1) (beg0 k) [] none s 0 cs W (Nat.lt_succ_self _) (by have := lft_le l (beg0 k); simp; omega) OnP.beg (.inr rfl) (Gd.beg0 l hmd).st (h.ext (Ext.trans HX.out hW)) IntsAt.nil (Nat.le_refl _) h3 h4)
    unfold SfP at KS
    clear hb hck e1 e2 e3 h hmd
    unfold maxLen at hm
    generalize sfR k z l (beg0 k) [] = R1 at *
    generalize decide (0 < cnt k z l (beg0 k)) = B1 at *
    generalize (beg0 k).2 = L0 at *
    generalize l.length = nl at *
    go_enter Tryd.func15, Tryd.ntmps15
    go_wp2_with fail
    try rw [hwk']
    refine (KC.out wk (Below.refl _ _)).mono ?_
    intro w5 hE5
    have HE5 := Lib.hid (show Ext wk w5 from hE5)
    clear hE5 m0 m1
    go_wp2_with fail
    refine wp_region_tail (l1 := [_, _, _, _, _, _, _, _, _]) (l2 := [_]) (by kernel_rfl) Ext (fun W => Below.refl _ W) (fun W => show Below W.heap.size W { W with drawn := W.drawn + 1 } from ⟨rfl, rfl, rfl, Nat.le_refl _, fun _ _ => rfl⟩) Ext.trans
      (fun i s W => match i with
        | 0 => s 0 = .agg #[.int .i64 k, .int .i64 z]
        | 1 => s 1 = .slice a nl c
        | 2 => s 2 = .agg #[.int .i64 k, .int .i64 z]
        | 3 => ∃ a0 c0, s 3 = .slice a0 L0.length c0 ∧ IntsAt W a0 L0 ∧ L0.length ≤ c0
        | 4 => ∃ a1 cc1, s 4 = .tuple #[.slice a1 R1.length cc1, .bool B1] ∧ IntsAt W a1 R1 ∧ R1.length ≤ cc1
        | 5 => ∃ a1 cc1, s 5 = .tuple #[.slice a1 R1.length cc1, .bool B1] ∧ IntsAt W a1 R1 ∧ R1.length ≤ cc1
        | 6 => ∃ a1 cc1, s 6 = .slice a1 R1.length cc1 ∧ IntsAt W a1 R1 ∧ R1.length ≤ cc1
        | 7 => s 7 = .bool B1
        | 8 => ∃ a1 cc1, s 8 = .slice a1 R1.length cc1 ∧ IntsAt W a1 R1 ∧ R1.length ≤ cc1
        | _ => True)
      (fun i => [i])
      (by
        intro i s s' W W' h hs hE
        have hs := hs i (by simp)
        match i, h, hs with
        | 0, h, hs => exact hs.trans h
        | 1, h, hs => exact hs.trans h
        | 2, h, hs => exact hs.trans h
        | 3, ⟨a0, c0, h, h1, h2⟩, hs => exact ⟨a0, c0, hs.trans h, h1.ext hE, h2⟩
        | 4, ⟨a1, cc1, h, h1, h2⟩, hs => exact ⟨a1, cc1, hs.trans h, h1.ext hE, h2⟩
        | 5, ⟨a1, cc1, h, h1, h2⟩, hs => exact ⟨a1, cc1, hs.trans h, h1.ext hE, h2⟩
        | 6, ⟨a1, cc1, h, h1, h2⟩, hs => exact ⟨a1, cc1, hs.trans h, h1.ext hE, h2⟩
        | 7, h, hs => exact hs.trans h
        | 8, ⟨a1, cc1, h, h1, h2⟩, hs => exact ⟨a1, cc1, hs.trans h, h1.ext hE, h2⟩
        | i + 9, h, hs => exact trivial)
      (by kernel_rfl) (by kernel_rfl) (by kernel_rfl) 26 rfl (by kernel_rfl) (by kernel_rfl) ?_ ?_
    · intro i op ho a' W hA
      obtain ⟨m0, m1⟩ := HMD.out W (Ext.trans HE5.out hA.rel)
      match i, ho with
      | 0, ho =>
        obtain rfl := Option.some.inj ho
        have e1 : a'.eval (.tmp 2) = .pointer (some ⟨w.heap.size, 0, none⟩) := hA.keep 2 (by kernel_rfl)
        refine GoesG.value (.agg #[.int .i64 k, .int .i64 z]) rfl ?_ (Below.refl _ _) (fun s h1 h2 => h1 rfl)
        simp only [execOp, e1]
        simp [go_sem, m0, m1]
      | 1, ho =>
        obtain rfl := Option.some.inj ho
        have e1 : a'.eval (.tmp 1) = .slice a nl c := hA.keep 1 (by kernel_rfl)
        refine GoesG.value (.slice a nl c) rfl ?_ (Below.refl _ _) (fun s h1 h2 => h1 rfl)
        simp only [execOp, e1]
        simp [go_sem, m0, m1]
      | 2, ho =>
        obtain rfl := Option.some.inj ho
        have e1 : a'.eval (.tmp 2) = .pointer (some ⟨w.heap.size, 0, none⟩) := hA.keep 2 (by kernel_rfl)
        refine GoesG.value (.agg #[.int .i64 k, .int .i64 z]) rfl ?_ (Below.refl _ _) (fun s h1 h2 => h1 rfl)
        simp only [execOp, e1]
        simp [go_sem, m0, m1]
      | 3, ho =>
        obtain rfl := Option.some.inj ho
        have e1 : a'.eval (.tmp 19) = .agg #[.int .i64 k, .int .i64 z] := (sv_dst (l := _) rfl).symm.trans (hA.new 2 (by decide) (by kernel_rfl))
        refine GoesG.call 28 #[.agg #[.int .i64 k, .int .i64 z]] rfl ?_ ?_
        · have en := enters_fn Tryd.func28 (by kernel_rfl) rfl
          simp [Act.eval] at e1
          simp [execOp, go_sem, e1, en]
        · refine (KI.out W).mono ?_
          rintro e W2 ⟨v, rfl, hv, hE⟩
          obtain ⟨a0, c0, rfl, g1, g2, -⟩ := hv.look
          exact ⟨_, rfl, hE, fun s q1 q2 => ⟨a0, c0, q1 rfl, g1, g2⟩⟩
      | 4, ho =>
        obtain rfl := Option.some.inj ho
        obtain ⟨a0, c0, e0, h1, h2⟩ := hA.new 3 (by decide) (by kernel_rfl)
        have e1 : a'.eval (.tmp 17) = .agg #[.int .i64 k, .int .i64 z] := (sv_dst (l := _) rfl).symm.trans (hA.new 0 (by decide) (by kernel_rfl))
        have e2 : a'.eval (.tmp 18) = .slice a nl c := (sv_dst (l := _) rfl).symm.trans (hA.new 1 (by decide) (by kernel_rfl))
        have e4 : a'.eval (.tmp 20) = .slice a0 L0.length c0 := (sv_dst (l := _) rfl).symm.trans e0
        refine GoesG.call 37 #[.agg #[.int .i64 k, .int .i64 z], .slice a nl c, .slice none 0 0, .slice a0 L0.length c0] rfl ?_ ?_
        · have en := enters_fn Tryd.func37 (by kernel_rfl) rfl
          simp [Act.eval] at e1 e2 e4
          simp [execOp, go_sem, e1, e2, e4, en]
        · refine (KS.out W (Ext.trans HE5.out hA.rel) a0 c0 h1 h2).mono ?_
          rintro e W2 ⟨a1, cc1, rfl, g1, g2, g3⟩
          exact ⟨_, rfl, g3, fun s q1 q2 => ⟨a1, cc1, q1 rfl, g1, g2⟩⟩
      | 5, ho =>
        obtain rfl := Option.some.inj ho
        obtain ⟨a1, cc1, e0, h1, h2⟩ := hA.new 4 (by decide) (by kernel_rfl)
        have e1 : a'.eval (.tmp 21) = .tuple #[.slice a1 R1.length cc1, .bool B1] := (sv_dst (l := _) rfl).symm.trans e0
        refine GoesG.value (.tuple #[.slice a1 R1.length cc1, .bool B1]) rfl ?_ (Below.refl _ _) (fun s g1 g2 => ⟨a1, cc1, g1 rfl, h1, h2⟩)
        simp only [execOp, e1]
        simp [go_sem]
      | 6, ho =>
        obtain rfl := Option.some.inj ho
        obtain ⟨a1, cc1, e0, h1, h2⟩ := hA.new 5 (by decide) (by kernel_rfl)
        have e1 : a'.eval (.tmp 16) = .tuple #[.slice a1 R1.length cc1, .bool B1] := (sv_dst (l := _) rfl).symm.trans e0
        refine GoesG.value (.slice a1 R1.length cc1) rfl ?_ (Below.refl _ _) (fun s g1 g2 => ⟨a1, cc1, g1 rfl, h1, h2⟩)
        simp only [execOp, e1]
        simp [go_sem]
      | 7, ho =>
        obtain rfl := Option.some.inj ho
        obtain ⟨a1, cc1, e0, h1, h2⟩ := hA.new 5 (by decide) (by kernel_rfl)
        have e1 : a'.eval (.tmp 16) = .tuple #[.slice a1 R1.length cc1, .bool B1] := (sv_dst (l := _) rfl).symm.trans e0
        refine GoesG.value (.bool B1) rfl ?_ (Below.refl _ _) (fun s g1 g2 => g1 rfl)
        simp only [execOp, e1]
        simp [go_sem]
      | 8, ho =>
        obtain rfl := Option.some.inj ho
        obtain ⟨a1, cc1, e0, h1, h2⟩ := hA.new 6 (by decide) (by kernel_rfl)
        have e1 : a'.eval (.tmp 22) = .slice a1 R1.length cc1 := (sv_dst (l := _) rfl).symm.trans e0
        refine GoesG.value (.slice a1 R1.length cc1) rfl ?_ (Below.refl _ _) (fun s g1 g2 => ⟨a1, cc1, g1 rfl, h1, h2⟩)
        simp only [execOp, e1]
        simp [go_sem]
      | i + 9, ho => cases ho
    · intro vs w4 hvs hG hΦ
      obtain ⟨y0, y1, y2, y3, y4, y5, y6, y7, y8, rfl⟩ : ∃ y0 y1 y2 y3 y4 y5 y6 y7 y8, vs = y0 :: y1 :: y2 :: y3 :: y4 :: y5 :: y6 :: y7 :: y8 :: [] := by
        match vs, hvs with
        | y0 :: y1 :: y2 :: y3 :: y4 :: y5 :: y6 :: y7 :: y8 :: [], _ => exact ⟨y0, y1, y2, y3, y4, y5, y6, y7, y8, rfl⟩
      have e0 : y0 = .agg #[.int .i64 k, .int .i64 z] := hΦ 0 (by decide)
      subst e0
      have e1 : y1 = .slice a nl c := hΦ 1 (by decide)
      subst e1
      have e2 : y2 = .agg #[.int .i64 k, .int .i64 z] := hΦ 2 (by decide)
      subst e2
      have p3 : ∃ a0 c0, y3 = .slice a0 L0.length c0 ∧ IntsAt w4 a0 L0 ∧ L0.length ≤ c0 := hΦ 3 (by decide)
      have p4 : ∃ a1 cc1, y4 = .tuple #[.slice a1 R1.length cc1, .bool B1] ∧ IntsAt w4 a1 R1 ∧ R1.length ≤ cc1 := hΦ 4 (by decide)
      have p5 : ∃ a1 cc1, y5 = .tuple #[.slice a1 R1.length cc1, .bool B1] ∧ IntsAt w4 a1 R1 ∧ R1.length ≤ cc1 := hΦ 5 (by decide)
      have p6 : ∃ a1 cc1, y6 = .slice a1 R1.length cc1 ∧ IntsAt w4 a1 R1 ∧ R1.length ≤ cc1 := hΦ 6 (by decide)
      have e7 : y7 = .bool B1 := hΦ 7 (by decide)
      subst e7
      have p8 : ∃ a1 cc1, y8 = .slice a1 R1.length cc1 ∧ IntsAt w4 a1 R1 ∧ R1.length ≤ cc1 := hΦ 8 (by decide)
      clear hΦ hvs
      simp only [putAll, Act.put, List.setIfInBounds_toArray, List.set_cons_succ, List.set_cons_zero]
      try simp only [putAll, Act.put, List.setIfInBounds_toArray, List.set_cons_succ, List.set_cons_zero]
      obtain ⟨a7, c7, h7, hI7, hc7⟩ := p8
      subst h7
      obtain ⟨w7, rfl⟩ : ∃ W, W = w4 := ⟨_, rfl⟩
      have HE7 := Lib.hid (Ext.trans HE5.out (show Ext w5 w7 from hG))
      clear hG p3 p4 p5 p6
      go_wp2
      go_ret3
      exact ⟨a7, c7, rfl, hI7, hc7, Ext.trans HX.out HE7.out⟩
  · have g1 : (srE k z l != 0) = true := by rw [bne_iff_ne]; exact hb
    have e : srhR k z l = ([], false, srE k z l) := by unfold srhR; rw [if_pos hb]
    rw [e]
    clear e hb h
    generalize srE k z l = E at *
    unfold maxLen at hm
    generalize l.length = nl at *
    go_enter Tryd.func15, Tryd.ntmps15
    go_wp2_with fail
    try rw [hwk']
    refine (KC.out wk (Below.refl _ _)).mono ?_
    intro w5 hE5
    have HE5 := Lib.hid (show Ext wk w5 from hE5)
    clear hE5 m0 m1
    go_wp2
    go_ret3
    exact ⟨none, 0, rfl, IntsAt.nil, Nat.le_refl _, Ext.trans HX.out HE5.out⟩
set_option maxRecDepth 100000 in
set_option maxHeartbeats 4000000 in
theorem rfCount_any (k z : Int) (l : List Cl) (most : Int) (a : Option Addr) (c : Nat) (w : World) (hm : l.length ≤ maxLen) (h : HsAt w a l) :
    Gives Tryd.prog 17 #[.agg #[.int .i64 k, .int .i64 z], .slice a l.length c, .int .i64 most] w (.tuple #[.int .i64 (cotR k z l most).1, .int .i64 (cotR k z l most).2]) := by
  unfold Gives
  have HX := Lib.hid (ext_allocN w (.cells #[.int .i64 k, .int .i64 z] 23))
  have HMD := Lib.hid (mdCells w k z)
  obtain ⟨wk, hwk⟩ : ∃ W, W = w.alloc (.cells #[.int .i64 k, .int .i64 z] 23) := ⟨_, rfl⟩
  have hwk' := hwk.symm
  rw [hwk'] at HX HMD
  clear hwk
  obtain ⟨m0, m1⟩ := HMD.out wk (Below.refl _ _)
  have KC := Lib.hid (fun W (hW : Ext wk W) => refCk_any k z l a c W hm (h.ext (Ext.trans HX.out hW)))
  by_cases hb : srE k z l = 0
  · obtain ⟨hmd, hck, hl⟩ := srE_parts hb
    rw [hb] at KC
    by_cases h1 : most < 0
    · have d1 : decide (most < 0) = true := by simpa using h1
      have e : cotR k z l most = (0, 2) := by unfold cotR; rw [if_neg (by simpa using hb), if_pos (.inl h1)]
      rw [e]
      clear e hb h h1 hck hmd hl
      unfold maxLen at hm
      generalize l.length = nl at *
      go_enter Tryd.func17, Tryd.ntmps17
      go_wp2_with fail
      try rw [hwk']
      refine (KC.out wk (Below.refl _ _)).mono ?_
      intro w5 hE5
      have HE5 := Lib.hid (show Ext wk w5 from hE5)
      clear hE5 m0 m1
      go_wp2
      go_ret2
      exact ⟨rfl, Ext.trans HX.out HE5.out⟩
    have d1 : decide (most < 0) = false := by simpa using h1
    by_cases h2 : 10000 < most
    · have d2 : decide (10000 < most) = true := by simpa using h2
      have e : cotR k z l most = (0, 2) := by unfold cotR; rw [if_neg (by simpa using hb), if_pos (.inr h2)]
      rw [e]
      clear e hb h h1 h2 hck hmd hl
      unfold maxLen at hm
      generalize l.length = nl at *
      go_enter Tryd.func17, Tryd.ntmps17
      go_wp2_with fail
      try rw [hwk']
      refine (KC.out wk (Below.refl _ _)).mono ?_
      intro w5 hE5
      have HE5 := Lib.hid (show Ext wk w5 from hE5)
      clear hE5 m0 m1
      go_wp2
      go_ret2
      exact ⟨rfl, Ext.trans HX.out HE5.out⟩
    obtain ⟨mm, rfl⟩ : ∃ mm : Nat, most = (mm : Int) := ⟨most.toNat, by omega⟩
    have hmm : mm ≤ 10000 := by omega
    have d2 : decide (10000 < (mm : Int)) = false := by simpa using h2
    have e : cotR k z l (mm : Int) = (((min mm (cnt k z l (beg0 k)) : Nat) : Int), 0) := by
      unfold cotR
      rw [if_neg (by simpa using hb), if_neg (by omega)]
      congr 1
      omega
    rw [e]
    have KI := Lib.hid (fun W => show Calls Tryd.prog 28 #[.agg #[.int .i64 k, .int .i64 z]] W (fun e w' => ∃ v, e = .returned v ∧ RowI W.heap.size v (beg0 k).2 w' ∧ Ext W w') from by rw [show (beg0 k).2 = rIni k from (rIni_eq hmd).symm]; exact refInitial_any k z W)
    have KS := Lib.hid (fun W (hW : Ext wk W) s cs (h3 : IntsAt W s (beg0 k).2) (h4 : (beg0 k).2.length ≤ cs) => show Calls Tryd.prog 40 #[.agg #[.int .i64 k, .int .i64 z], .slice a l.length c, .slice none 0 0, .slice s (beg0 k).2.length cs, .int .i64 (mm : Int)] W (CoP k z l (beg0 k) mm W) from refCount_ind k z l a c hmd hl (lft l (beg0 k) + 1) (beg0 k) [] none s 0 cs mm W (Nat.lt_succ_self _) (by have := lft_le l (beg0 k); simp; omega) OnP.beg (.inr rfl) (Gd.beg0 l hmd).st (h.ext (Ext.trans HX.out hW)) IntsAt.nil (Nat.le_refl _) h3 h4 hmm)
    unfold CoP at KS
    clear hb hck h hmd e h1 h2
    unfold maxLen at hm
    generalize min mm (cnt k z l (beg0 k)) = r1 at *
    generalize (beg0 k).2 = L0 at *
    generalize l.length = nl at *
    go_enter Tryd.func17, Tryd.ntmps17
    go_wp2_with fail
    try rw [hwk']
    refine (KC.out wk (Below.refl _ _)).mono ?_
    intro w5 hE5
    have HE5 := Lib.hid (show Ext wk w5 from hE5)
    clear hE5 m0 m1
    go_wp2_with fail
    refine wp_region_tail (l1 := [_, _, _, _, _, _]) (l2 := [_, _]) (by kernel_rfl) Ext (fun W => Below.refl _ W) (fun W => show Below W.heap.size W { W with drawn := W.drawn + 1 } from ⟨rfl, rfl, rfl, Nat.le_refl _, fun _ _ => rfl⟩) Ext.trans
      (fun i s W => match i with
        | 0 => s 0 = .agg #[.int .i64 k, .int .i64 z]
        | 1 => s 1 = .slice a nl c
        | 2 => s 2 = .agg #[.int .i64 k, .int .i64 z]
        | 3 => ∃ a0 c0, s 3 = .slice a0 L0.length c0 ∧ IntsAt W a0 L0 ∧ L0.length ≤ c0
        | 4 => s 4 = .int .i64 (mm : Int)
        | 5 => s 5 = .int .i64 (r1 : Int)
        | _ => True)
      (fun i => [i])
      (by
        intro i s s' W W' h hs hE
        have hs := hs i (by simp)
        match i, h, hs with
        | 0, h, hs => exact hs.trans h
        | 1, h, hs => exact hs.trans h
        | 2, h, hs => exact hs.trans h
        | 3, ⟨a0, c0, h, h1, h2⟩, hs => exact ⟨a0, c0, hs.trans h, h1.ext hE, h2⟩
        | 4, h, hs => exact hs.trans h
        | 5, h, hs => exact hs.trans h
        | i + 6, h, hs => exact trivial)
      (by kernel_rfl) (by kernel_rfl) (by kernel_rfl) 27 rfl (by kernel_rfl) (by kernel_rfl) ?_ ?_
    · intro i op ho a' W hA
      obtain ⟨m0, m1⟩ := HMD.out W (Ext.trans HE5.out hA.rel)
      match i, ho with
      | 0, ho =>
        obtain rfl := Option.some.inj ho
        have e1 : a'.eval (.tmp 3) = .pointer (some ⟨w.heap.size, 0, none⟩) := hA.keep 3 (by kernel_rfl)
        refine GoesG.value (.agg #[.int .i64 k, .int .i64 z]) rfl ?_ (Below.refl _ _) (fun s h1 h2 => h1 rfl)
        simp only [execOp, e1]
        simp [go_sem, m0, m1]
      | 1, ho =>
        obtain rfl := Option.some.inj ho
        have e1 : a'.eval (.tmp 1) = .slice a nl c := hA.keep 1 (by kernel_rfl)
        refine GoesG.value (.slice a nl c) rfl ?_ (Below.refl _ _) (fun s h1 h2 => h1 rfl)
        simp only [execOp, e1]
        simp [go_sem, m0, m1]
      | 2, ho =>
        obtain rfl := Option.some.inj ho
        have e1 : a'.eval (.tmp 3) = .pointer (some ⟨w.heap.size, 0, none⟩) := hA.keep 3 (by kernel_rfl)
        refine GoesG.value (.agg #[.int .i64 k, .int .i64 z]) rfl ?_ (Below.refl _ _) (fun s h1 h2 => h1 rfl)
        simp only [execOp, e1]
        simp [go_sem, m0, m1]
      | 3, ho =>
        obtain rfl := Option.some.inj ho
        have e1 : a'.eval (.tmp 23) = .agg #[.int .i64 k, .int .i64 z] := (sv_dst (l := _) rfl).symm.trans (hA.new 2 (by decide) (by kernel_rfl))
        refine GoesG.call 28 #[.agg #[.int .i64 k, .int .i64 z]] rfl ?_ ?_
        · have en := enters_fn Tryd.func28 (by kernel_rfl) rfl
          simp [Act.eval] at e1
          simp [execOp, go_sem, e1, en]
        · refine (KI.out W).mono ?_
          rintro e W2 ⟨v, rfl, hv, hE⟩
          obtain ⟨a0, c0, rfl, g1, g2, -⟩ := hv.look
          exact ⟨_, rfl, hE, fun s q1 q2 => ⟨a0, c0, q1 rfl, g1, g2⟩⟩
      | 4, ho =>
        obtain rfl := Option.some.inj ho
        have e1 : a'.eval (.tmp 2) = .int .i64 (mm : Int) := hA.keep 2 (by kernel_rfl)
        refine GoesG.value (.int .i64 (mm : Int)) rfl ?_ (Below.refl _ _) (fun s h1 h2 => h1 rfl)
        simp only [execOp, e1]
        simp [go_sem, m0, m1]
      | 5, ho =>
        obtain rfl := Option.some.inj ho
        obtain ⟨a0, c0, e0, h1, h2⟩ := hA.new 3 (by decide) (by kernel_rfl)
        have e1 : a'.eval (.tmp 21) = .agg #[.int .i64 k, .int .i64 z] := (sv_dst (l := _) rfl).symm.trans (hA.new 0 (by decide) (by kernel_rfl))
        have e2 : a'.eval (.tmp 22) = .slice a nl c := (sv_dst (l := _) rfl).symm.trans (hA.new 1 (by decide) (by kernel_rfl))
        have e4 : a'.eval (.tmp 24) = .slice a0 L0.length c0 := (sv_dst (l := _) rfl).symm.trans e0
        have e5 : a'.eval (.tmp 25) = .int .i64 (mm : Int) := (sv_dst (l := _) rfl).symm.trans (hA.new 4 (by decide) (by kernel_rfl))
        refine GoesG.call 40 #[.agg #[.int .i64 k, .int .i64 z], .slice a nl c, .slice none 0 0, .slice a0 L0.length c0, .int .i64 (mm : Int)] rfl ?_ ?_
        · have en := enters_fn Tryd.func40 (by kernel_rfl) rfl
          simp [Act.eval] at e1 e2 e4 e5
          simp [execOp, go_sem, e1, e2, e4, e5, en]
        · refine (KS.out W (Ext.trans HE5.out hA.rel) a0 c0 h1 h2).mono ?_
          rintro e W2 ⟨rfl, g3⟩
          exact ⟨_, rfl, g3, fun s q1 q2 => q1 rfl⟩
      | i + 6, ho => cases ho
    · intro vs w4 hvs hG hΦ
      obtain ⟨y0, y1, y2, y3, y4, y5, rfl⟩ : ∃ y0 y1 y2 y3 y4 y5, vs = y0 :: y1 :: y2 :: y3 :: y4 :: y5 :: [] := by
        match vs, hvs with
        | y0 :: y1 :: y2 :: y3 :: y4 :: y5 :: [], _ => exact ⟨y0, y1, y2, y3, y4, y5, rfl⟩
      have e0 : y0 = .agg #[.int .i64 k, .int .i64 z] := hΦ 0 (by decide)
      subst e0
      have e1 : y1 = .slice a nl c := hΦ 1 (by decide)
      subst e1
      have e2 : y2 = .agg #[.int .i64 k, .int .i64 z] := hΦ 2 (by decide)
      subst e2
      have p3 : ∃ a0 c0, y3 = .slice a0 L0.length c0 ∧ IntsAt w4 a0 L0 ∧ L0.length ≤ c0 := hΦ 3 (by decide)
      have e4 : y4 = .int .i64 (mm : Int) := hΦ 4 (by decide)
      subst e4
      have e5 : y5 = .int .i64 (r1 : Int) := hΦ 5 (by decide)
      subst e5
      clear hΦ hvs
      simp only [putAll, Act.put, List.setIfInBounds_toArray, List.set_cons_succ, List.set_cons_zero]
      try simp only [putAll, Act.put, List.setIfInBounds_toArray, List.set_cons_succ, List.set_cons_zero]
      obtain ⟨w7, rfl⟩ : ∃ W, W = w4 := ⟨_, rfl⟩
      have HE7 := Lib.hid (Ext.trans HE5.out (show Ext w5 w7 from hG))
      clear hG p3
      go_wp2
      go_ret2
      exact ⟨rfl, Ext.trans HX.out HE7.out⟩
  · have g1 : (srE k z l != 0) = true := by rw [bne_iff_ne]; exact hb
    have e : cotR k z l most = (0, srE k z l) := by unfold cotR; rw [if_pos hb]
    rw [e]
    clear e hb h
    generalize srE k z l = E at *
    unfold maxLen at hm
    generalize l.length = nl at *
    go_enter Tryd.func17, Tryd.ntmps17
    go_wp2_with fail
    try rw [hwk']
    refine (KC.out wk (Below.refl _ _)).mono ?_
    intro w5 hE5
    have HE5 := Lib.hid (show Ext wk w5 from hE5)
    clear hE5 m0 m1
    go_wp2
    go_ret2
    exact ⟨rfl, Ext.trans HX.out HE5.out⟩
end Go.Proofs.YtmbkjccckmlacaaDoor

namespace Go.Proofs.YtmbkjccckmlacaaDoor
open Go.RowKit
set_option linter.unusedVariables false
set_option linter.unusedSimpArgs false

def RxP (w : World) (R : List Nat × Int × Int) (e : Ending) (w' : World) : Prop := ∃ (a : Option Addr) (c : Nat), e = .returned (.tuple #[.slice a (R.1.map Int.ofNat).length c, .int .i64 R.2.1, .int .i64 R.2.2]) ∧ IntsAt w' a (R.1.map Int.ofNat) ∧ (R.1.map Int.ofNat).length ≤ c ∧ Ext w w'
theorem ix_eq {k z : Int} {l : List Cl} {j : Nat} (hj : j < l.length) : ((must l).testBit j && !(expF k z l (lon k z l (beg0 k)) (beg0 k)).2.1.testBit j) = (decide (l[j].en ≠ -1) && !decide ((j : Int) ∈ (expN k z l (beg0 k)).map Int.ofNat)) := by
  rw [must_at hj, run_bit _ _ _ (exp_run _ (beg0 k) rfl).1]
  have e : decide ((j : Int) ∈ (expN k z l (beg0 k)).map Int.ofNat) = decide (j ∈ (expF k z l (lon k z l (beg0 k)) (beg0 k)).1) := by
    rw [decide_eq_decide, List.mem_map]
    unfold expN
    constructor
    · rintro ⟨x, h1, h2⟩
      have : x = j := by have h3 : (x : Int) = (j : Int) := h2; omega
      exact this ▸ h1
    · exact fun h => ⟨j, h, rfl⟩
  rw [e]
  simp [beg0]
set_option maxRecDepth 100000 in
set_option maxHeartbeats 4000000 in
theorem rfExplain_any (k z : Int) (l : List Cl) (a : Option Addr) (c : Nat) (w : World) (hm : l.length ≤ maxLen) (h : HsAt w a l) :
    Calls Tryd.prog 19 #[.agg #[.int .i64 k, .int .i64 z], .slice a l.length c] w (RxP w (xplR k z l)) := by
  unfold RxP
  have HX := Lib.hid (ext_allocN w (.cells #[.int .i64 k, .int .i64 z] 23))
  have HMD := Lib.hid (mdCells w k z)
  obtain ⟨wk, hwk⟩ : ∃ W, W = w.alloc (.cells #[.int .i64 k, .int .i64 z] 23) := ⟨_, rfl⟩
  have hwk' := hwk.symm
  rw [hwk'] at HX HMD
  clear hwk
  obtain ⟨m0, m1⟩ := HMD.out wk (Below.refl _ _)
  have KR := Lib.hid (fun W (hW : Ext wk W) => rfSearch_any k z l a c W hm (h.ext (Ext.trans HX.out hW)))
  unfold RsP at KR
  by_cases hb : srE k z l = 0
  · have eS : srhR k z l = ((serR k z l).1, (serR k z l).2, 0) := by unfold srhR; rw [if_neg (by simpa using hb)]
    rw [eS] at KR
    cases hs : (serR k z l).2 with
    | true =>
      have e : xplR k z l = ((serR k z l).1, -1, 0) := by unfold xplR; rw [if_neg (by simpa using hb), if_pos hs]
      rw [hs] at KR
      rw [e]
      clear e eS hs hb h
      generalize (serR k z l).1.map Int.ofNat = R1 at *
      unfold maxLen at hm
      generalize l.length = nl at *
      go_enter Tryd.func19, Tryd.ntmps19
      go_wp2_with fail
      try rw [hwk']
      refine (KR.out wk (Below.refl _ _)).mono ?_
      rintro e w5 ⟨a5, c5, rfl, hI5, hc5, hE5⟩
      have HE5 := Lib.hid (show Ext wk w5 from hE5)
      clear hE5 m0 m1
      go_wp2
      go_ret3
      exact ⟨a5, c5, rfl, hI5, hc5, Ext.trans HX.out HE5.out⟩
    | false =>
      obtain ⟨hmd, hck, hl⟩ := srE_parts hb
      have e : xplR k z l = (expN k z l (beg0 k), ixR l (expF k z l (lon k z l (beg0 k)) (beg0 k)).2, 0) := by unfold xplR; rw [if_neg (by simpa using hb), if_neg (by rw [hs]; simp)]; rfl
      rw [hs] at KR
      rw [e]
      have KI := Lib.hid (fun W => show Calls Tryd.prog 28 #[.agg #[.int .i64 k, .int .i64 z]] W (fun e w' => ∃ v, e = .returned v ∧ RowI W.heap.size v (beg0 k).2 w' ∧ Ext W w') from by rw [show (beg0 k).2 = rIni k from (rIni_eq hmd).symm]; exact refInitial_any k z W)
      have KS := Lib.hid (fun W (hW : Ext wk W) s cs (h3 : IntsAt W s (beg0 k).2) (h4 : (beg0 k).2.length ≤ cs) => show Calls Tryd.prog 43 #[.agg #[.int .i64 k, .int .i64 z], .slice a l.length c, .slice none 0 0, .slice s (beg0 k).2.length cs] W (LoP k z l (beg0 k) [] W) from refLongest_ind k z l a c hmd hl (lft l (beg0 k) + 1) (beg0 k) [] none s 0 cs W (Nat.lt_succ_self _) (by have := lft_le l (beg0 k); simp; omega) OnP.beg (.inr rfl) (Gd.beg0 l hmd).st (h.ext (Ext.trans HX.out hW)) IntsAt.nil (Nat.le_refl _) h3 h4)
      unfold LoP at KS
      rw [List.nil_append] at KS
      have HTL := Lib.hid (show ((expN k z l (beg0 k)).map Int.ofNat).length ≤ 1000 from by rw [List.length_map, expN_len]; have := lon_le k z l (beg0 k); omega)
      have HQ := Lib.hid (fun j (hj : j < l.length) => ix_eq (k := k) (z := z) hj)
      have HY := Lib.hid (fun j (hj : j < l.length) => ixr_at (n := (expF k z l (lon k z l (beg0 k)) (beg0 k)).2) hj)
      have HZ := Lib.hid (ixr_no (l := l) (n := (expF k z l (lon k z l (beg0 k)) (beg0 k)).2))
      have HH := Lib.hid (fun W (hW : Ext wk W) => h.ext (Ext.trans HX.out hW))
      clear e eS hs hb hck h hmd
      dsimp only at *
      generalize ixR l (expF k z l (lon k z l (beg0 k)) (beg0 k)).2 = X at *
      obtain ⟨ib, hib⟩ : ∃ ib : Nat → Bool, (fun j => ((must l).testBit j && !(expF k z l (lon k z l (beg0 k)) (beg0 k)).2.1.testBit j)) = ib := ⟨_, rfl⟩
      have HQ2 := Lib.hid (fun j (hj : j < l.length) => show ib j = (decide (l[j].en ≠ -1) && !decide ((j : Int) ∈ (expN k z l (beg0 k)).map Int.ofNat)) from by rw [← hib]; exact HQ.out j hj)
      have HY2 := Lib.hid (fun j (hj : j < l.length) (h1 : ib j = true) (h2 : ∀ i, i < j → ib i = false) => show X = (j : Int) from HY.out j hj (by rw [← hib] at h1; exact h1) (fun i hi => by have := h2 i hi; rw [← hib] at this; exact this))
      have HZ2 := Lib.hid (fun (h2 : ∀ i, i < l.length → ib i = false) => show X = -1 from HZ.out (fun i hi => by have := h2 i hi; rw [← hib] at this; exact this))
      clear hib HQ HY HZ
      generalize (expN k z l (beg0 k)).map Int.ofNat = R1 at *
      generalize (beg0 k).2 = L0 at *
      generalize (serR k z l).1.map Int.ofNat = R5 at *
      obtain ⟨nl, hnl⟩ : ∃ nl, l.length = nl := ⟨_, rfl⟩
      have HNL := Lib.hid hnl
      rw [hnl] at KR KS hl ⊢
      clear hnl hm
      go_enter Tryd.func19, Tryd.ntmps19
      go_wp2_with fail
      try rw [hwk']
      refine (KR.out wk (Below.refl _ _)).mono ?_
      rintro e w5 ⟨a5, c5, rfl, hI5, hc5, hE5⟩
      have HE5 := Lib.hid (show Ext wk w5 from hE5)
      clear hE5 m0 m1
      clear hI5 hc5
      go_wp2_with fail
      refine wp_region_tail (l1 := [_, _, _, _, _]) (l2 := [_]) (by kernel_rfl) Ext (fun W => Below.refl _ W) (fun W => show Below W.heap.size W { W with drawn := W.drawn + 1 } from ⟨rfl, rfl, rfl, Nat.le_refl _, fun _ _ => rfl⟩) Ext.trans
        (fun i s W => match i with
          | 0 => s 0 = .agg #[.int .i64 k, .int .i64 z]
          | 1 => s 1 = .slice a nl c
          | 2 => s 2 = .agg #[.int .i64 k, .int .i64 z]
          | 3 => ∃ a0 c0, s 3 = .slice a0 L0.length c0 ∧ IntsAt W a0 L0 ∧ L0.length ≤ c0
          | 4 => ∃ a1 cc1, s 4 = .slice a1 R1.length cc1 ∧ IntsAt W a1 R1 ∧ R1.length ≤ cc1
          | _ => True)
        (fun i => [i])
        (by
          intro i s s' W W' h hs hE
          have hs := hs i (by simp)
          match i, h, hs with
          | 0, h, hs => exact hs.trans h
          | 1, h, hs => exact hs.trans h
          | 2, h, hs => exact hs.trans h
          | 3, ⟨a0, c0, h, h1, h2⟩, hs => exact ⟨a0, c0, hs.trans h, h1.ext hE, h2⟩
          | 4, ⟨a1, cc1, h, h1, h2⟩, hs => exact ⟨a1, cc1, hs.trans h, h1.ext hE, h2⟩
          | i + 5, h, hs => exact trivial)
        (by kernel_rfl) (by kernel_rfl) (by kernel_rfl) 49 rfl (by kernel_rfl) (by kernel_rfl) ?_ ?_
      · intro i op ho a' W hA
        obtain ⟨m0, m1⟩ := HMD.out W (Ext.trans HE5.out hA.rel)
        match i, ho with
        | 0, ho =>
          obtain rfl := Option.some.inj ho
          have e1 : a'.eval (.tmp 2) = .pointer (some ⟨w.heap.size, 0, none⟩) := hA.keep 2 (by kernel_rfl)
          refine GoesG.value (.agg #[.int .i64 k, .int .i64 z]) rfl ?_ (Below.refl _ _) (fun s h1 h2 => h1 rfl)
          simp only [execOp, e1]
          simp [go_sem, m0, m1]
        | 1, ho =>
          obtain rfl := Option.some.inj ho
          have e1 : a'.eval (.tmp 1) = .slice a nl c := hA.keep 1 (by kernel_rfl)
          refine GoesG.value (.slice a nl c) rfl ?_ (Below.refl _ _) (fun s h1 h2 => h1 rfl)
          simp only [execOp, e1]
          simp [go_sem, m0, m1]
        | 2, ho =>
          obtain rfl := Option.some.inj ho
          have e1 : a'.eval (.tmp 2) = .pointer (some ⟨w.heap.size, 0, none⟩) := hA.keep 2 (by kernel_rfl)
          refine GoesG.value (.agg #[.int .i64 k, .int .i64 z]) rfl ?_ (Below.refl _ _) (fun s h1 h2 => h1 rfl)
          simp only [execOp, e1]
          simp [go_sem, m0, m1]
        | 3, ho =>
          obtain rfl := Option.some.inj ho
          have e1 : a'.eval (.tmp 25) = .agg #[.int .i64 k, .int .i64 z] := (sv_dst (l := _) rfl).symm.trans (hA.new 2 (by decide) (by kernel_rfl))
          refine GoesG.call 28 #[.agg #[.int .i64 k, .int .i64 z]] rfl ?_ ?_
          · have en := enters_fn Tryd.func28 (by kernel_rfl) rfl
            simp [Act.eval] at e1
            simp [execOp, go_sem, e1, en]
          · refine (KI.out W).mono ?_
            rintro e W2 ⟨v, rfl, hv, hE⟩
            obtain ⟨a0, c0, rfl, g1, g2, -⟩ := hv.look
            exact ⟨_, rfl, hE, fun s q1 q2 => ⟨a0, c0, q1 rfl, g1, g2⟩⟩
        | 4, ho =>
          obtain rfl := Option.some.inj ho
          obtain ⟨a0, c0, e0, h1, h2⟩ := hA.new 3 (by decide) (by kernel_rfl)
          have e1 : a'.eval (.tmp 23) = .agg #[.int .i64 k, .int .i64 z] := (sv_dst (l := _) rfl).symm.trans (hA.new 0 (by decide) (by kernel_rfl))
          have e2 : a'.eval (.tmp 24) = .slice a nl c := (sv_dst (l := _) rfl).symm.trans (hA.new 1 (by decide) (by kernel_rfl))
          have e4 : a'.eval (.tmp 26) = .slice a0 L0.length c0 := (sv_dst (l := _) rfl).symm.trans e0
          refine GoesG.call 43 #[.agg #[.int .i64 k, .int .i64 z], .slice a nl c, .slice none 0 0, .slice a0 L0.length c0] rfl ?_ ?_
          · have en := enters_fn Tryd.func43 (by kernel_rfl) rfl
            simp [Act.eval] at e1 e2 e4
            simp [execOp, go_sem, e1, e2, e4, en]
          · refine (KS.out W (Ext.trans HE5.out hA.rel) a0 c0 h1 h2).mono ?_
            rintro e W2 ⟨a1, cc1, rfl, g1, g2, g3⟩
            exact ⟨_, rfl, g3, fun s q1 q2 => ⟨a1, cc1, q1 rfl, g1, g2⟩⟩
        | i + 5, ho => cases ho
      · intro vs w4 hvs hG hΦ
        obtain ⟨y0, y1, y2, y3, y4, rfl⟩ : ∃ y0 y1 y2 y3 y4, vs = y0 :: y1 :: y2 :: y3 :: y4 :: [] := by
          match vs, hvs with
          | y0 :: y1 :: y2 :: y3 :: y4 :: [], _ => exact ⟨y0, y1, y2, y3, y4, rfl⟩
        have e0 : y0 = .agg #[.int .i64 k, .int .i64 z] := hΦ 0 (by decide)
        subst e0
        have e1 : y1 = .slice a nl c := hΦ 1 (by decide)
        subst e1
        have e2 : y2 = .agg #[.int .i64 k, .int .i64 z] := hΦ 2 (by decide)
        subst e2
        have p3 : ∃ a0 c0, y3 = .slice a0 L0.length c0 ∧ IntsAt w4 a0 L0 ∧ L0.length ≤ c0 := hΦ 3 (by decide)
        have p4 : ∃ a1 cc1, y4 = .slice a1 R1.length cc1 ∧ IntsAt w4 a1 R1 ∧ R1.length ≤ cc1 := hΦ 4 (by decide)
        clear hΦ hvs
        simp only [putAll, Act.put, List.setIfInBounds_toArray, List.set_cons_succ, List.set_cons_zero]
        try simp only [putAll, Act.put, List.setIfInBounds_toArray, List.set_cons_succ, List.set_cons_zero]
        obtain ⟨a7, c7, h7, hI7, hc7⟩ := p4
        subst h7
        obtain ⟨w7, rfl⟩ : ∃ W, W = w4 := ⟨_, rfl⟩
        have HE7 := Lib.hid (Ext.trans HE5.out (show Ext w5 w7 from hG))
        have HI7 := Lib.hid (fun W (hW : Ext w7 W) => hI7.ext hW)
        have HC7 := Lib.hid hc7
        clear hG p3 hI7 hc7
        go_wp2_with fail
        go_loopw [10] (fun i wr => ∃ j : Nat, j ≤ nl ∧ i = .int .i64 (j : Int) ∧ (∀ i, i < j → ib i = false) ∧ Ext w7 wr) (fun i _ => nl - (intOf i).toNat)
        case atStart => exact ⟨0, Nat.zero_le _, rfl, fun i hi => by omega, Below.refl _ _⟩
        case round =>
          obtain ⟨j, hj, rfl, hno, hEr⟩ := hrel
          have HNO := Lib.hid hno
          have HER := Lib.hid hEr
          clear hno hEr
          have HE := Lib.hid (Ext.trans HE7.out HER.out)
          by_cases hlt : j < nl
          · have hjl : j < l.length := by rw [HNL.out]; exact hlt
            have hi0 : (0 : Int) ≤ (j : Int) := by omega
            have hi1 : (j : Int) < (nl : Int) := by omega
            have HQj := Lib.hid (HQ2.out j hjl)
            have HYj := Lib.hid (fun h1 => HY2.out j hjl h1 HNO.out)
            obtain ⟨ba, oa, hab, hx0⟩ := (HH.out wr HE.out) j hjl
            subst hab
            have KHj := Lib.hid (refHas_any R1 (j : Int) a7 c7 wr (by have := HTL.out; omega) (HI7.out wr HER.out))
            generalize l[j] = x at *
            obtain ⟨tk, me, ar, re, be, en⟩ := x
            obtain ⟨x0, x1, x2, x3, x4, x5⟩ := hx0
            dsimp only at *
            have HNX := Lib.hid (fun (h : ib j = false) i (hi : i < j + 1) => show ib i = false from by
              by_cases e : i < j
              · exact HNO.out i e
              · obtain rfl : i = j := by omega
                exact h)
            by_cases hen : en = -1
            · have g4 : (en != -1) = false := by simpa using hen
              have HN1 := Lib.hid (HNX.out (by rw [HQj.out, hen]; simp))
              clear hen
              go_wp2
              exact ⟨⟨j + 1, by omega, by go_num, HN1.out, HER.out⟩, by simp [intOf]; omega⟩
            have g4 : (en != -1) = true := by rw [bne_iff_ne]; exact hen
            cases hin : decide ((j : Int) ∈ R1) with
            | true =>
              have HN1 := Lib.hid (HNX.out (by rw [HQj.out, hin]; simp))
              rw [hin] at KHj
              clear hen hin
              generalize R1.length = r1 at *
              go_wp2_with fail
              refine KHj.out.mono ?_
              intro w8 hE8
              have HE8 := Lib.hid (Ext.trans HER.out hE8)
              clear hE8
              go_wp2
              exact ⟨⟨j + 1, by omega, by go_num, HN1.out, HE8.out⟩, by simp [intOf]; omega⟩
            | false =>
              have HXj := Lib.hid (HYj.out (by rw [HQj.out, hin]; simpa using hen))
              rw [hin] at KHj
              clear hen hin
              obtain ⟨r1, hr1⟩ : ∃ r1, R1.length = r1 := ⟨_, rfl⟩
              rw [hr1] at KHj HC7 ⊢
              go_wp2_with fail
              refine KHj.out.mono ?_
              intro w8 hE8
              have HE8 := Lib.hid (Ext.trans HER.out hE8)
              clear hE8
              go_wp2
              go_ret3
              exact ⟨a7, c7, by rw [HXj.out, hr1]; rfl, HI7.out w8 HE8.out, by rw [hr1]; exact HC7.out, Ext.trans HX.out (Ext.trans HE7.out HE8.out)⟩
          · have hjl : nl = j := by omega
            subst hjl
            have HXj := Lib.hid (HZ2.out (fun i hi => HNO.out i (by rw [← HNL.out]; exact hi)))
            go_wp2
            go_ret3
            exact ⟨a7, c7, by rw [HXj.out]; rfl, HI7.out _ HER.out, HC7.out, Ext.trans HX.out HE.out⟩
  · have g1 : (srE k z l != 0) = true := by rw [bne_iff_ne]; exact hb
    have e : xplR k z l = ([], 0, srE k z l) := by unfold xplR; rw [if_pos hb]
    have eS : srhR k z l = ([], false, srE k z l) := by unfold srhR; rw [if_pos hb]
    rw [e]
    rw [eS] at KR
    clear e eS hb h
    generalize srE k z l = E at *
    unfold maxLen at hm
    generalize l.length = nl at *
    go_enter Tryd.func19, Tryd.ntmps19
    go_wp2_with fail
    try rw [hwk']
    refine (KR.out wk (Below.refl _ _)).mono ?_
    rintro e w5 ⟨a5, c5, rfl, hI5, hc5, hE5⟩
    have HE5 := Lib.hid (show Ext wk w5 from hE5)
    clear hE5 m0 m1
    go_wp2
    go_ret3
    exact ⟨none, 0, rfl, IntsAt.nil, Nat.le_refl _, Ext.trans HX.out HE5.out⟩
end Go.Proofs.YtmbkjccckmlacaaDoor

namespace Go.Proofs.YtmbkjccckmlacaaDoor
open Go.RowKit
set_option linter.unusedVariables false
set_option linter.unusedSimpArgs false

theorem xpl_len {k z : Int} {l : List Cl} : (xplR k z l).1.length ≤ l.length + 1 := by
  unfold xplR
  split
  · simp
  · split
    · show (serR k z l).1.length ≤ _
      unfold serR
      split
      · simp
      · have := ser_len (k := k) (z := z) (l := l) (l.length + 1) (beg0 k)
        have := lft_le l (beg0 k)
        show (serF k z l (l.length + 1) (beg0 k)).length ≤ _
        omega
    · show (expN k z l (beg0 k)).length ≤ _
      rw [expN_len]
      exact lon_le k z l (beg0 k)
set_option maxRecDepth 100000 in
set_option maxHeartbeats 4000000 in
theorem linearizeSearch_walk (k z : Int) (l : List Cl) (a : Option Addr) (c : Nat) (most : Int) (w : World) (hO : OpIn w a c l) (hw : (Lit.int .i64 most).wf = true) (hT : TabW w) :
    Gives Tryd.prog 4 #[.agg #[.int .i64 k, .int .i64 z], .slice a l.length c, .int .i64 most] w (.bool true) := by
  obtain ⟨hHs, hlc, hlm, -⟩ := hO
  unfold Gives
  have KA := Lib.hid (fun W (hW : Ext w W) => awake_any W (hT.below hW.below))
  have HX1 := Lib.hid (ext_allocN w (.cells #[.int .i64 k, .int .i64 z] 23))
  have HMD := Lib.hid (mdCells w k z)
  have KG := Lib.hid (fun W => great_any l.length a c W)
  cases hg : grH l.length with
  | true =>
    rw [hg] at KG
    clear hlc hlm hHs hT
    generalize l.length = len at *
    go_enter Tryd.func4, Tryd.ntmps4
    go_wp2_with fail
    refine (KG.out _).mono ?_
    intro w2 hE2
    have HE2 := Lib.hid (Ext.trans HX1.out hE2)
    clear hE2
    go_wp2_with fail
    refine (KA.out _ HE2.out).mono ?_
    intro w3 hE3
    have HE3 := Lib.hid (Ext.trans HE2.out hE3)
    clear hE3
    go_wp2
    go_ret
    exact ⟨rfl, HE3.out⟩
  | false =>
    have hl := grH_leF hg
    rw [hg] at KG
    have KS1 := Lib.hid (fun W (hW : Ext w W) => Search_any k z l a c W (hHs.ext hW) hlm (hT.below hW.below))
    have KS2 := Lib.hid (fun W (hW : Ext w W) => rfSearch_any k z l a c W hlm (hHs.ext hW))
    have KC1 := Lib.hid (fun W (hW : Ext w W) => Count_any k z l most a c W (hHs.ext hW) hlm (hT.below hW.below))
    have KC2 := Lib.hid (fun W (hW : Ext w W) => rfCount_any k z l most a c W hlm (hHs.ext hW))
    have KX1 := Lib.hid (fun W (hW : Ext w W) => Explain_any k z l a c W (hHs.ext hW) hlm (hT.below hW.below))
    have KX2 := Lib.hid (fun W (hW : Ext w W) => rfExplain_any k z l a c W hlm (hHs.ext hW))
    have HB1 := Lib.hid (show ((srhR k z l).1.map Int.ofNat).length ≤ 1000 from by rw [List.length_map]; have := srh_len (k := k) (z := z) (l := l); omega)
    have HB2 := Lib.hid (show ((xplR k z l).1.map Int.ofNat).length ≤ 1000 from by rw [List.length_map]; have := xpl_len (k := k) (z := z) (l := l); omega)
    unfold ShP at KS1
    unfold RsP at KS2
    unfold XpP at KX1
    unfold RxP at KX2
    clear hlc hHs hT hg hlm
    generalize srhR k z l = S at *
    obtain ⟨s1, is, er⟩ := S
    generalize cotR k z l most = C at *
    obtain ⟨cn, ce⟩ := C
    generalize xplR k z l = X at *
    obtain ⟨s2, ci, xe⟩ := X
    dsimp only at *
    generalize s1.map Int.ofNat = M1 at *
    generalize s2.map Int.ofNat = M2 at *
    generalize l.length = len at *
    go_enter Tryd.func4, Tryd.ntmps4
    go_wp2_with fail
    refine (KG.out _).mono ?_
    intro w2 hE2
    obtain ⟨m0, m1⟩ := HMD.out w2 hE2
    have HX2 := Lib.hid hE2
    have HE2 := Lib.hid (Ext.trans HX1.out hE2)
    clear hE2
    go_wp2_with fail
    refine (KS1.out _ HE2.out).mono ?_
    rintro e w3 ⟨v, rfl, hr, hE3⟩
    have HX3 := Lib.hid (Ext.trans HX2.out hE3)
    have HE3 := Lib.hid (Ext.trans HE2.out hE3)
    obtain ⟨x3, c3, rfl, hi3, -, -⟩ := hr.look
    have HI3 := Lib.hid (fun W (hW : Ext w3 W) => hi3.ext hW)
    clear hr hi3
    clear hE3 m0 m1
    obtain ⟨m0, m1⟩ := HMD.out w3 HX3.out
    go_wp2_with fail
    refine (KS2.out _ HE3.out).mono ?_
    rintro e w4 ⟨x4, c4, rfl, hi4, -, hE4⟩
    have HX4 := Lib.hid (Ext.trans HX3.out hE4)
    have HE4 := Lib.hid (Ext.trans HE3.out hE4)
    have HI34 := Lib.hid (HI3.out w4 hE4)
    have HI4 := Lib.hid (fun W (hW : Ext w4 W) => And.intro (HI34.out.ext hW) (hi4.ext hW))
    clear hi4
    clear hE4 m0 m1
    obtain ⟨m0, m1⟩ := HMD.out w4 HX4.out
    go_wp2_with fail
    refine (KC1.out _ HE4.out).mono ?_
    intro w5 hE5
    have HX5 := Lib.hid (Ext.trans HX4.out hE5)
    have HE5 := Lib.hid (Ext.trans HE4.out hE5)
    have HT5 := Lib.hid hE5
    clear hE5 m0 m1
    obtain ⟨m0, m1⟩ := HMD.out w5 HX5.out
    go_wp2_with fail
    refine (KC2.out _ HE5.out).mono ?_
    intro w6 hE6
    have HX6 := Lib.hid (Ext.trans HX5.out hE6)
    have HE6 := Lib.hid (Ext.trans HE5.out hE6)
    have HT6 := Lib.hid (Ext.trans HT5.out hE6)
    clear hE6 m0 m1
    obtain ⟨m0, m1⟩ := HMD.out w6 HX6.out
    go_wp2_with fail
    refine (KX1.out _ HE6.out).mono ?_
    rintro e w7 ⟨v, rfl, hr, hE7⟩
    have HX7 := Lib.hid (Ext.trans HX6.out hE7)
    have HE7 := Lib.hid (Ext.trans HE6.out hE7)
    obtain ⟨x7, c7, rfl, hi7, -, -⟩ := hr.look
    have HT7 := Lib.hid (Ext.trans HT6.out hE7)
    have HI7 := Lib.hid (fun W (hW : Ext w7 W) => hi7.ext hW)
    clear hr hi7
    clear hE7 m0 m1
    obtain ⟨m0, m1⟩ := HMD.out w7 HX7.out
    go_wp2_with fail
    refine (KX2.out _ HE7.out).mono ?_
    rintro e w8 ⟨x8, c8, rfl, hi8, -, hE8⟩
    have HX8 := Lib.hid (Ext.trans HX7.out hE8)
    have HE8 := Lib.hid (Ext.trans HE7.out hE8)
    have HT8 := Lib.hid (Ext.trans HT7.out hE8)
    have HI78 := Lib.hid (HI7.out w8 hE8)
    have HI8 := Lib.hid (fun W (hW : Ext w8 W) => And.intro (HI78.out.ext hW) (hi8.ext hW))
    clear hi8
    have KQ1 := Lib.hid (show Gives Tryd.prog 20 #[.slice x3 M1.length c3, .slice x4 M1.length c4] w8 (.bool true) from by
      have := SameI_any M1 M1 x3 x4 c3 c4 w8 (by have := HB1.out; omega) (by have := HB1.out; omega) (HI4.out w8 HT8.out).1 (HI4.out w8 HT8.out).2
      simpa using this)
    have KQ2 := Lib.hid (fun W (hW : Ext w8 W) => show Gives Tryd.prog 20 #[.slice x7 M2.length c7, .slice x8 M2.length c8] W (.bool true) from by
      have := SameI_any M2 M2 x7 x8 c7 c8 W (by have := HB2.out; omega) (by have := HB2.out; omega) (HI8.out W hW).1 (HI8.out W hW).2
      simpa using this)
    clear hE8 m0 m1
    obtain ⟨m0, m1⟩ := HMD.out w8 HX8.out
    generalize M1.length = n1 at *
    generalize M2.length = n2 at *
    go_wp2_with fail
    refine KQ1.out.mono ?_
    intro w9 hE9
    have HW9 := Lib.hid (show Ext w8 w9 from hE9)
    have HE9 := Lib.hid (Ext.trans HE8.out hE9)
    clear hE9 m0 m1
    go_wp2_with fail
    refine (KQ2.out w9 HW9.out).mono ?_
    intro w10 hE10
    have HE10 := Lib.hid (Ext.trans HE9.out hE10)
    clear hE10
    go_wp2_with fail
    refine (KA.out _ HE10.out).mono ?_
    intro w11 hE11
    have HE11 := Lib.hid (Ext.trans HE10.out hE11)
    clear hE11
    go_wp2
    go_ret
    exact ⟨rfl, HE11.out⟩
end Go.Proofs.YtmbkjccckmlacaaDoor

namespace Go.Proofs.YtmbkjccckmlacaaDoor.linearizeSearch
open Go.ChangeShapes Go.WideShapes Go.ChangeAt Go.RowKit
open Go.ChangeMaps (open_string shut_string)
set_option linter.unusedVariables false

theorem own : ownKnob Tryd.prog.godebug = none := by kernel_rfl
theorem laidOut : laidOutB Tryd.prog = true := by kernel_rfl
/-- the cells of a datum of plain values -/
def flat : Nat → DataW Unit → List Value
  | _, .lit l => [l.value]
  | n + 1, .agg ps => ps.flatMap (flat n)
  | _, _ => []
/-- a world for the witness: the settled one, the listed tables holding what the text lays -/
def lay (d : DataW Unit) : Obj → Obj
  | .cells _ t frozen => .cells (flat 4 d).toArray t frozen
  | o => o
noncomputable def laidWorld (os : Os) : World :=
  { World.holding Tryd.prog os ⟨#[], #[], []⟩ with heap := ((((World.holding Tryd.prog os ⟨#[], #[], []⟩).heap.modify 1 (lay Rows.laid_math_bits_deBruijn32tab)).modify 2 (lay Rows.laid_math_bits_deBruijn64tab)).modify 0 (lay Rows.laid_internal_strconv_uint64pow10)) }
theorem laid_met (os : Os) : laidMet Tryd.prog Rows.linearizeSearchRow.laid ((laidWorld os).forCall (fun _ _ => 0) ⟨#[], #[.agg #[.int .i64 0, .int .i64 0], .slice none 0 0, .int .i64 0], []⟩).memory :=
  laidMet_of_run' 8 (by kernel_rfl) (by kernel_rfl)
theorem reads (os : Os) {H : Type} (enc : TypeId × Value → H) : ∃ places, DataW.whole enc Tryd.prog ((laidWorld os).forCall (fun _ _ => 0) ⟨#[], #[.agg #[.int .i64 0, .int .i64 0], .slice none 0 0, .int .i64 0], []⟩).memory Tryd.f4.params.toList Rows.linearizeSearchSpec.vars false (#[.agg #[.int .i64 0, .int .i64 0], .slice none 0 0, .int .i64 0] : Array Value).toList 8 = some ([.agg [.lit (.int .i64 0), .lit (.int .i64 0)], .nil, .lit (.int .i64 0)], [], places) :=
  ⟨[], by kernel_rfl⟩
theorem tab (W : World) (h : laidMetH Tryd.prog Rows.linearizeSearchRow.laid W) : TabW W := by
  have h1 : laidMet Tryd.prog Rows.linearizeSearchRow.laid W := h
  exact Lib.tabIs_of_head (g := 0) (t := 129) (e := 116) (n := 20) (by kernel_rfl) (by kernel_rfl) Tryd.underlying129 Tryd.underlying116 (by kernel_rfl) (by kernel_rfl) h1.tail.tail
set_option maxRecDepth 100000 in
theorem contract (H : Type) (enc : TypeId × Value → H) (W : World) (base : Nat) (args : Array Value) (ds gs : List (DataW H)) (before : List MemPlace)
    (hval0 : ∀ (j : Nat) t v, Tryd.f4.params[j]? = some t → args[j]? = some v → Value.okWide Tryd.prog W .any base t v)
    (hW : DataW.Whole enc Tryd.prog Tryd.f4.params.toList Rows.linearizeSearchSpec.vars false W args.toList ds gs before) (hz : (DataW.weightsEach Tryd.prog (Tryd.f4.params.toList ++ (OpenSpec.ofChange Rows.linearizeSearchSpec).bare.plain.varTypes Tryd.prog) (ds ++ gs)).all (· ≤ reachBytes) = true) (hL : laidMetH Tryd.prog Rows.linearizeSearchRow.laid W) :
    Calls Tryd.prog 4 args W fun e W' => ∃ v, e = .returned v ∧ Rows.linearizeSearchSpec.post enc Tryd.prog Tryd.f4 false true false false W args v W' := by
  have hval := hval0
  have hW' := hW
  obtain ⟨p, q, hA0, hV, rfl, hfz, hnd⟩ := hW
  have hA : DataW.TrodAll enc Tryd.prog W 0 (fun _ => true) true Tryd.f4.params.toList args.toList ds p := hA0
  rw [Tryd.params4] at hA hval
  obtain ⟨v0, vs0, d0, ds0, p0, q0, hargs, rfl, rfl, h0, r0⟩ := trodAll_cons hA
  obtain ⟨v1, vs1, d1, ds1, p1, q1, rfl, rfl, rfl, h1, r1⟩ := trodAll_cons r0
  obtain ⟨v2, vs2, d2, ds2, p2, q2, rfl, rfl, rfl, h2, r2⟩ := trodAll_cons r1
  obtain ⟨rfl, rfl, rfl⟩ := trodAll_nil r2
  obtain rfl : args = #[v0, v1, v2] := by cases args; simp_all
  obtain ⟨rfl, rfl⟩ := trodVars_none hV
  have k0 := h0
  have lt0 : ∀ x ∈ p0, x.block < W.heap.size := by obtain ⟨m, hm⟩ := k0; exact DataW.trod_lt m _ _ _ hm
  obtain ⟨mk0, mz0, rfl, wk0, wz0⟩ := open_md (hval 0 23 v0 rfl rfl) h0
  obtain ⟨a1, len1, cap1, rfl⟩ := okWide_slice Tryd.underlying24 (hval 1 24 v1 rfl rfl)
  have k1 := h1
  have lt1 : ∀ x ∈ p1, x.block < W.heap.size := by obtain ⟨m, hm⟩ := k1; exact DataW.trod_lt m _ _ _ hm
  obtain ⟨tk1, rfl, w1⟩ := open_ops h1
  obtain ⟨a2, rfl, rfl, rfl, w2⟩ := open_int Tryd.underlying3 (hval 2 3 v2 rfl rfl) h2
  clear hA0 hval0 hz
  refine (linearizeSearch_walk mk0 mz0 tk1 a1 cap1 a2 W w1 w2 (tab W hL)).mono fun W' bel => ?_
  exact ⟨_, rfl, _, _, _, [], _, [], hW', trodAll_mk1 (shut_bool Tryd.underlying4 _), (trodAll_cons_mk (Below.trod laidOut (by kernel_rfl) (of_decide_eq_true (by kernel_rfl)) k0 bel lt0) (trodAll_cons_mk (Below.trod laidOut (by kernel_rfl) (of_decide_eq_true (by kernel_rfl)) k1 bel lt1) (trodAll_cons_mk (shut_int Tryd.underlying3 w2) trodAll_mk0))), rfl, bel.frame _, fun h => by cases h⟩

set_option maxRecDepth 100000 in
theorem lifted (os : Os) (started : os.Started) (H : Type) (enc : TypeId × Value → H) (F : Stop.Interp) :
    ReturnsInHanded {} Tryd.checked os 4 .any ((OpenSpec.ofChange Rows.linearizeSearchSpec).preRow enc Tryd.prog Tryd.f4 Rows.linearizeSearchRow.domain false Rows.linearizeSearchRow.laid) (((OpenSpec.ofChange Rows.linearizeSearchSpec).at F).post enc Tryd.prog Tryd.f4 false true false false) := by
  obtain ⟨places, hx⟩ := reads os enc
  refine returnsInHanded_of_row (C := Tryd.checked) (s := OpenSpec.ofChange Rows.linearizeSearchSpec) own started (by kernel_rfl) Tryd.func4
    (witness_row_at (enc := enc) (C := Tryd.checked) false (laidWorld os) #[.agg #[.int .i64 0, .int .i64 0], .slice none 0 0, .int .i64 0] rfl (by kernel_rfl) (by kernel_rfl) (by kernel_rfl)
      (OpenSpec.preRow_of_cond 8 hx (by kernel_rfl) (fun k hk => by cases hk) (by kernel_rfl) (laid_met os))) ?_
  intro W base args ds gs before hval hW _ _ hz hL hsh _
  exact contract H enc W base args ds gs before hval hW hz hL

theorem said : Rows.LinearizeSearchSaid :=
  OpenClaim.holds_of_cond 4 Tryd.f4 rfl rfl rfl rfl rfl rfl rfl ⟨rfl, rfl, rfl, rfl, rfl⟩ rfl rfl rfl rfl rfl (by kernel_rfl) Tryd.func4 (by kernel_rfl)
    (of_decide_eq_true (by kernel_rfl)) (by unfold Func.isWrapper; first | (rw [if_pos (by decide +kernel)]; kernel_rfl) | (rw [if_neg (by decide +kernel)]; exact ⟨rfl, rfl⟩))
    (fun os started H enc _ F => by rw [OpenClaim.pre_eq_preRow]; exact lifted os started H enc F)

theorem plain (f : FuncId) (fn : Func) (hf : Tryd.pinned.checked.prog.funcNamed "nursery/nurserylaw44.LinearizeSearch" = some f) (hfn : Tryd.pinned.checked.prog.funcs[f]? = some fn) :
    false = Tryd.pinned.checked.prog.looks [] ∧ ∀ (j : Nat) t, fn.params[j]? = some t → Tryd.pinned.checked.prog.wantsStandIn t = false := by
  obtain rfl : f = 4 := Option.some.inj ((show Tryd.prog.funcNamed "nursery/nurserylaw44.LinearizeSearch" = some 4 by kernel_rfl).symm.trans hf) |>.symm
  obtain rfl : fn = Tryd.f4 := (Option.some.inj (Tryd.func4.symm.trans hfn)).symm
  refine ⟨by kernel_rfl, fun j t ht => ?_⟩
  rw [Tryd.params4] at ht
  rcases j with _ | _ | _ | j
  · obtain rfl : t = 23 := by simpa using ht.symm
    exact (show Tryd.prog.wantsStandIn 23 = false by kernel_rfl)
  · obtain rfl : t = 24 := by simpa using ht.symm
    exact (show Tryd.prog.wantsStandIn 24 = false by kernel_rfl)
  · obtain rfl : t = 3 := by simpa using ht.symm
    exact (show Tryd.prog.wantsStandIn 3 = false by kernel_rfl)
  · simp at ht

/-- the statement -/
theorem proved : Rows.LinearizeSearchCardSaid :=
  Claim7.holds_tied_plain_at .later [] _ _ _ _ said (fun _ h => by cases h) (by kernel_rfl) (fun _ h => by cases h) linearizeSearch_row_tie rfl ⟨rfl, rfl⟩ (by kernel_rfl) rfl plain (by kernel_rfl)
#print axioms proved
end Go.Proofs.YtmbkjccckmlacaaDoor.linearizeSearch

