/- A valid program grows: plain. -/
import Derived.Test.YtfkjokbhnblndaaDoorPgV
import Derived.Test.YtfkjokbhnblndaaDoorPgD
namespace Go.Proofs.YtfkjokbhnblndaaDoor
open Go.RowKit
set_option linter.unusedVariables false
set_option linter.unusedSimpArgs false

/-- q has all that p has, and more behind -/
structure Sub (p q : Pg) : Prop where
  fs : ∃ l, q.fs = p.fs ++ l
  os : ∃ l, q.os = p.os ++ l
  vs : ∃ l, q.vs = p.vs ++ l
theorem inB_mono {n a b c : Int} (h : inB n a b = true) (hbc : b ≤ c) : inB n a c = true := by
  have := inB_iff.1 h
  exact inB_iff.2 ⟨this.1, by omega⟩
theorem get_app {α : Type} {l m : List α} {n : Int} (h : inB n 0 ((l.length : Int) - 1) = true) : (l ++ m)[n.toNat]? = l[n.toNat]? := by
  have := inB_iff.1 h
  exact List.getElem?_append_left (by omega)
theorem kindAt_app {l m : List Ob} {n : Int} (h : inB n 0 ((l.length : Int) - 1) = true) : kindAt (l ++ m) n = kindAt l n := by
  unfold kindAt; rw [get_app h]
theorem len_app {α : Type} (l m : List α) : (l.length : Int) - 1 ≤ ((l ++ m).length : Int) - 1 := by rw [List.length_append]; omega
theorem ckOpd_mono {p q : Pg} (hs : Sub p q) {f : Fn} {o : Opd} {n : Int} (h : ckOpd p f o n = 0) : ckOpd q f o n = 0 := by
  obtain ⟨⟨lf, e1⟩, ⟨lo, e2⟩, ⟨lv, e3⟩⟩ := hs
  unfold ckOpd at h ⊢
  rw [e1, e2, e3]
  by_cases c0 : o.what = 0
  · rw [if_pos c0] at h ⊢; exact h
  rw [if_neg c0] at h ⊢
  by_cases c1 : o.what = 1
  · rw [if_pos c1] at h ⊢; exact h
  rw [if_neg c1] at h ⊢
  by_cases c2 : o.what = 2
  · rw [if_pos c2] at h ⊢; exact h
  rw [if_neg c2] at h ⊢
  by_cases c3 : o.what = 3 ∨ o.what = 4
  · rw [if_pos c3] at h ⊢; exact h
  rw [if_neg c3] at h ⊢
  by_cases c5 : o.what = 5
  · rw [if_pos c5] at h ⊢; exact h
  rw [if_neg c5] at h ⊢
  by_cases c6 : o.what = 6
  · rw [if_pos c6] at h ⊢; exact h
  rw [if_neg c6] at h ⊢
  by_cases c7 : o.what = 7
  · rw [if_pos c7] at h ⊢; exact h
  rw [if_neg c7] at h ⊢
  by_cases c8 : o.what = 8 ∨ o.what = 9
  · rw [if_pos c8] at h ⊢
    cases hb : inB n 0 ((p.fs.length : Int) - 1) with
    | false => rw [hb] at h; cases h
    | true =>
      rw [hb, if_pos rfl] at h
      rw [inB_mono hb (len_app _ _), if_pos rfl, get_app hb]
      exact h
  rw [if_neg c8] at h ⊢
  by_cases c10 : o.what = 10
  · rw [if_pos c10] at h ⊢
    cases hb : inB n 0 ((p.vs.length : Int) - 1) with
    | false => rw [hb] at h; cases h
    | true => rw [inB_mono hb (len_app _ _), if_pos rfl]
  rw [if_neg c10] at h ⊢
  by_cases c11 : o.what = 11
  · rw [if_pos c11] at h ⊢
    cases hb : inB n 0 ((p.vs.length : Int) - 1) with
    | false => rw [hb] at h; cases h
    | true =>
      rw [hb, if_pos rfl] at h
      rw [inB_mono hb (len_app _ _), if_pos rfl, get_app hb]
      exact h
  rw [if_neg c11] at h ⊢
  cases hb : inB n 0 ((p.os.length : Int) - 1) with
  | false => rw [hb] at h; cases h
  | true =>
    rw [hb, if_pos rfl] at h
    rw [inB_mono hb (len_app _ _), if_pos rfl, kindAt_app hb]
    exact h
theorem ckCase_mono {p q : Pg} (hs : Sub p q) {f : Fn} {k ch r : Int} (h : ckCase p f k ch r = 0) : ckCase q f k ch r = 0 := by
  unfold ckCase at h ⊢
  by_cases c3 : k = 3
  · rw [if_pos c3] at h ⊢; exact h
  rw [if_neg c3] at h ⊢
  by_cases c1 : k = 1 ∨ k = 2
  · rw [if_pos c1] at h ⊢
    by_cases e : ckOpd p f (Ob' 6) ch = 0
    · rw [if_neg (not_not_intro e)] at h
      rw [if_neg (not_not_intro (ckOpd_mono hs e))]
      exact h
    · rw [if_pos e] at h; exact absurd h e
  · rw [if_neg c1] at h; cases h
theorem ckArgs_mono {p q : Pg} (hs : Sub p q) {f : Fn} {what : Int} {x : Ins} (hb : what = 1 → inB x.b 0 ((p.fs.length : Int) - 1) = true) (h : ckArgs p f what x = 0) : ckArgs q f what x = 0 := by
  unfold ckArgs at h ⊢
  by_cases c0 : what = 0
  · rw [if_pos c0] at h ⊢; exact h
  rw [if_neg c0] at h ⊢
  by_cases c3 : what = 3
  · rw [if_pos c3] at h ⊢
    unfold ckCases at h ⊢
    by_cases d1 : x.args.length = 0 ∨ x.args.length % 3 ≠ 0 ∨ x.args.length > 18
    · rw [if_pos d1] at h; cases h
    rw [if_neg d1] at h ⊢
    by_cases d2 : fstE (fun j => ckCase p f (x.args.getD (3 * j) 0) (x.args.getD (3 * j + 1) 0) (x.args.getD (3 * j + 2) 0)) (x.args.length / 3) = 0
    · rw [if_neg (not_not_intro d2)] at h
      have d3 : fstE (fun j => ckCase q f (x.args.getD (3 * j) 0) (x.args.getD (3 * j + 1) 0) (x.args.getD (3 * j + 2) 0)) (x.args.length / 3) = 0 := fstE_ok (fun j hj => ckCase_mono hs (fstE_all d2 j hj))
      rw [if_neg (not_not_intro d3)]
      exact h
    · rw [if_pos d2] at h; exact absurd h d2
  rw [if_neg c3] at h ⊢
  by_cases c1 : what = 1
  · rw [if_pos c1] at h ⊢
    obtain ⟨l, e⟩ := hs.fs
    rw [e, get_app (hb c1)]
    exact h
  · rw [if_neg c1] at h ⊢; exact h
theorem shTab_args : ∀ q ∈ shTab, q.2.args = 1 → q.2.b.what = 8 ∨ q.2.b.what = 9 := by decide
theorem shp_mem : ∀ {l : List (Int × Sh)} {k : Int} {s : Sh}, l.lookup k = some s → (k, s) ∈ l
  | [], k, s, h => by simp at h
  | (j, t) :: l, k, s, h => by
    rw [List.lookup_cons] at h
    by_cases e : k = j
    · subst e; simp at h; subst h; simp
    · have e1 : (k == j) = false := by simpa using e
      rw [e1] at h
      exact List.mem_cons_of_mem _ (shp_mem h)
/-- what calls has a function -/
theorem InsOk.fn {p : Pg} {f : Fn} {x : Ins} {s : Sh} (h : InsOk p f x s) (h1 : s.args = 1) : inB x.b 0 ((p.fs.length : Int) - 1) = true := by
  have hw := shTab_args _ (shp_mem h.shp) h1
  have hb := h.b
  unfold ckOpd at hb
  dsimp only at hw
  rw [if_neg (by omega), if_neg (by omega), if_neg (by omega), if_neg (by omega), if_neg (by omega), if_neg (by omega), if_neg (by omega), if_pos hw] at hb
  cases e : inB x.b 0 ((p.fs.length : Int) - 1) with
  | true => rfl
  | false => rw [e] at hb; cases hb
theorem InsOk.mono {p q : Pg} (hs : Sub p q) {f : Fn} {x : Ins} {s : Sh} (h : InsOk p f x s) : InsOk q f x s :=
  ⟨h.shp, h.forb, ckOpd_mono hs h.a, ckOpd_mono hs h.b, ckOpd_mono hs h.c, ckArgs_mono hs h.fn h.args, h.recv, h.sel⟩
theorem ckIns_mono {p q : Pg} (hs : Sub p q) {f : Fn} {x : Ins} (h : ckIns p f x = 0) : ckIns q f x = 0 := by
  obtain ⟨s, h⟩ := ckIns_iff.1 h
  exact ckIns_iff.2 ⟨s, h.mono hs⟩
theorem Sub.fnOk {p q : Pg} (hs : Sub p q) {i : Nat} (hi : i < p.fs.length) (h : FnOk p i p.fs[i]) : FnOk q i p.fs[i] := by
  obtain ⟨l, e⟩ := hs.fs
  refine ⟨h.nm, ?_, h.params, h.regs, h.prio, h.cl, h.len, h.main, fun k hk => ckIns_mono hs (h.code k hk)⟩
  rw [e, List.take_append_of_le_length (by omega)]
  exact h.new
theorem Sub.fn_at {p q : Pg} (hs : Sub p q) {i : Nat} (hi : i < p.fs.length) : ∃ h : i < q.fs.length, q.fs[i] = p.fs[i] := by
  obtain ⟨l, e⟩ := hs.fs
  have h : i < q.fs.length := by rw [e, List.length_append]; omega
  refine ⟨h, ?_⟩
  have : q.fs[i]? = p.fs[i]? := by rw [e, List.getElem?_append_left hi]
  rw [List.getElem?_eq_getElem h, List.getElem?_eq_getElem hi] at this
  exact Option.some.inj this
theorem Sub.va_at {p q : Pg} (hs : Sub p q) {i : Nat} (hi : i < p.vs.length) : ∃ h : i < q.vs.length, q.vs[i] = p.vs[i] := by
  obtain ⟨l, e⟩ := hs.vs
  have h : i < q.vs.length := by rw [e, List.length_append]; omega
  refine ⟨h, ?_⟩
  have : q.vs[i]? = p.vs[i]? := by rw [e, List.getElem?_append_left hi]
  rw [List.getElem?_eq_getElem h, List.getElem?_eq_getElem hi] at this
  exact Option.some.inj this
theorem Sub.ob_at {p q : Pg} (hs : Sub p q) {i : Nat} (hi : i < p.os.length) : ∃ h : i < q.os.length, q.os[i] = p.os[i] := by
  obtain ⟨l, e⟩ := hs.os
  have h : i < q.os.length := by rw [e, List.length_append]; omega
  refine ⟨h, ?_⟩
  have : q.os[i]? = p.os[i]? := by rw [e, List.getElem?_append_left hi]
  rw [List.getElem?_eq_getElem h, List.getElem?_eq_getElem hi] at this
  exact Option.some.inj this
theorem Sub.obOk {p q : Pg} (hs : Sub p q) {i : Nat} (hi : i < p.os.length) (h : ObOk p.os i p.os[i]) : ObOk q.os i p.os[i] := by
  obtain ⟨l, e⟩ := hs.os
  have hl : p.os.length ≤ q.os.length := by rw [e, List.length_append]; omega
  have hoth : inB (p.os[i]).oth (otLo (p.os[i]).kind) (otHi q.os.length (p.os[i]).kind) = true := by
    refine inB_mono h.oth ?_
    unfold otHi
    split
    · omega
    · exact Int.le_refl _
  refine ⟨h.nm, h.k1, h.k2, h.size, hoth, fun hk => ?_, ?_⟩
  · have h1 := h.cond hk
    rw [e]
    rw [kindAt_app]
    · exact h1
    · have h2 := h.oth
      rw [hk] at h2
      simpa [otLo, otHi] using h2
  · rw [e, List.take_append_of_le_length (by omega)]
    exact h.new
def newNm : List UInt8 := [110, 101, 119, 95, 110, 97, 109, 101]
theorem isNm_new : isNm newNm = true := by decide
/-- the object that is added -/
def gOb (k : Int) (m : Int) : Ob := ⟨newNm, k, if k = 4 ∨ k = 5 ∨ k = 7 ∨ k = 8 then 1 else 0, if k = 3 then m else if k = 8 then 1 else 0⟩
theorem grow_ob {p : Pg} (h : Valid p) (hfull : p.os.length ≠ 16) (h1 : p.os.any (fun x => x.name == newNm) = false) (h2 : p.vs.any (fun x => x.name == newNm) = false) {k m : Int} (hk1 : 1 ≤ k) (hk2 : k ≤ 9) (hm : k = 3 → 0 ≤ m ∧ m < p.os.length ∧ kindAt p.os m = 1) :
    ckPg { p with os := p.os ++ [gOb k m] } = 0 := by
  have hs : Sub p { p with os := p.os ++ [gOb k m] } := ⟨⟨[], by simp⟩, ⟨_, rfl⟩, ⟨[], by simp⟩⟩
  have ho2 := h.o2
  refine valid_iff.2 ⟨h.f1, h.f2, by simp; omega, h.v2, fun i hi => ?_, fun i hi => ?_, fun i hi => ?_⟩
  · by_cases hlt : i < p.os.length
    · obtain ⟨hq, e⟩ := hs.ob_at hlt
      have := hs.obOk hlt (h.ob hlt)
      rw [← e] at this
      exact (ckOb_iff hi).2 this
    · have e : i = p.os.length := by simp at hi; omega
      refine (ckOb_iff hi).2 ?_
      have hg : (p.os ++ [gOb k m])[i] = gOb k m := by subst e; simp
      rw [hg]
      refine ⟨isNm_new, hk1, hk2, ?_, ?_, fun e3 => ?_, ?_⟩
      · unfold gOb szLo szHi
        dsimp only
        by_cases c : k = 4 ∨ k = 5 ∨ k = 7 ∨ k = 8
        · rw [if_pos c, if_pos (by omega)]; decide
        · rw [if_neg c]
          by_cases c6 : k = 6
          · subst c6; simp [inB]
          · rw [if_neg (by omega)]; decide
      · unfold gOb otLo otHi
        dsimp only
        by_cases c : k = 3
        · have := hm c
          rw [if_pos c, if_pos c, if_neg (by omega)]
          exact inB_iff.2 ⟨this.1, by simp; omega⟩
        · rw [if_neg c, if_neg c]
          by_cases c8 : k = 8
          · subst c8; decide
          · rw [if_neg c8, if_neg c8]
            by_cases c4 : k = 4
            · rw [if_pos c4]; decide
            · rw [if_neg c4]; try rw [if_neg c8]
              decide
      · have e4 : k = 3 := e3
        have := hm e4
        have e5 : (gOb k m).oth = m := by unfold gOb; dsimp only; rw [if_pos e4]
        rw [e5, kindAt_app (inB_iff.2 ⟨this.1, by omega⟩)]
        exact this.2.2
      · subst e
        rw [List.take_append_of_le_length (Nat.le_refl _), List.take_length]
        exact h1
  · have hi' : i < p.vs.length := hi
    refine (ckVa_iff hi).2 ?_
    have hv := h.va hi'
    refine ⟨hv.nm, hv.init, ?_, hv.new⟩
    show (p.os ++ [gOb k m]).any (fun x => x.name == (p.vs[i]).name) = false
    rw [List.any_append, Bool.or_eq_false_iff]
    refine ⟨hv.ob, ?_⟩
    have := List.any_eq_false.1 h2 _ (List.getElem_mem hi')
    simp only [List.any_cons, List.any_nil, Bool.or_false]
    show (newNm == (p.vs[i]).name) = false
    rw [beq_eq_false_iff_ne]
    intro e
    apply this
    rw [← e]; simp
  · have hi' : i < p.fs.length := hi
    exact (ckFn_iff hi).2 (hs.fnOk hi' (h.fn hi'))
theorem grow_va {p : Pg} (h : Valid p) (hfull : p.vs.length ≠ 16) (h1 : p.os.any (fun x => x.name == newNm) = false) (h2 : p.vs.any (fun x => x.name == newNm) = false) (b : Bool) :
    ckPg { p with vs := p.vs ++ [⟨newNm, 0, b⟩] } = 0 := by
  have hs : Sub p { p with vs := p.vs ++ [⟨newNm, 0, b⟩] } := ⟨⟨[], by simp⟩, ⟨[], by simp⟩, ⟨_, rfl⟩⟩
  have ho2 := h.v2
  refine valid_iff.2 ⟨h.f1, h.f2, h.o2, by simp; omega, fun i hi => h.os i hi, fun i hi => ?_, fun i hi => ?_⟩
  · refine (ckVa_iff hi).2 ?_
    by_cases hlt : i < p.vs.length
    · have hv := h.va hlt
      have e : (p.vs ++ [⟨newNm, 0, b⟩])[i]'hi = p.vs[i] := List.getElem_append_left hlt
      show VaOk _ i ((p.vs ++ [⟨newNm, 0, b⟩])[i]'hi)
      rw [e]
      refine ⟨hv.nm, hv.init, hv.ob, ?_⟩
      show ((p.vs ++ [(⟨newNm, 0, b⟩ : Va)]).take i).any _ = false
      rw [List.take_append_of_le_length (by omega)]
      exact hv.new
    · have e : i = p.vs.length := by simp at hi; omega
      have hg : (p.vs ++ [⟨newNm, 0, b⟩])[i]'hi = ⟨newNm, 0, b⟩ := by subst e; simp
      show VaOk _ i ((p.vs ++ [⟨newNm, 0, b⟩])[i]'hi)
      rw [hg]
      refine ⟨isNm_new, (by decide : inB 0 (-1099511627776) 1099511627776 = true), h1, ?_⟩
      show ((p.vs ++ [(⟨newNm, 0, b⟩ : Va)]).take i).any _ = false
      subst e
      rw [List.take_append_of_le_length (Nat.le_refl _), List.take_length]
      exact h2
  · have hi' : i < p.fs.length := hi
    exact (ckFn_iff hi).2 (hs.fnOk hi' (h.fn hi'))
theorem grow_fn {p : Pg} (h : Valid p) (hfull : p.fs.length ≠ 32) (h3 : p.fs.any (fun x => x.name == newNm) = false) (b : Bool) :
    ckPg { p with fs := p.fs ++ [⟨newNm, 0, 0, 0, b, []⟩] } = 0 := by
  have hs : Sub p { p with fs := p.fs ++ [⟨newNm, 0, 0, 0, b, []⟩] } := ⟨⟨_, rfl⟩, ⟨[], by simp⟩, ⟨[], by simp⟩⟩
  have hf1 := h.f1
  have hf2 := h.f2
  refine valid_iff.2 ⟨by simp, by simp; omega, h.o2, h.v2, fun i hi => h.os i hi, fun i hi => h.vs i hi, fun i hi => ?_⟩
  refine (ckFn_iff hi).2 ?_
  by_cases hlt : i < p.fs.length
  · have e : (p.fs ++ [⟨newNm, 0, 0, 0, b, []⟩])[i]'hi = p.fs[i] := List.getElem_append_left hlt
    show FnOk _ i ((p.fs ++ [⟨newNm, 0, 0, 0, b, []⟩])[i]'hi)
    rw [e]
    exact hs.fnOk hlt (h.fn hlt)
  · have e : i = p.fs.length := by simp at hi; omega
    have hg : (p.fs ++ [⟨newNm, 0, 0, 0, b, []⟩])[i]'hi = ⟨newNm, 0, 0, 0, b, []⟩ := by subst e; simp
    show FnOk _ i ((p.fs ++ [⟨newNm, 0, 0, 0, b, []⟩])[i]'hi)
    rw [hg]
    refine ⟨isNm_new, ?_, (by decide : inB 0 0 8 = true), (by decide : inB 0 0 32 = true), (by decide : inB 0 0 9 = true), fun _ => rfl, Nat.zero_le _, fun e0 => by omega, fun k hk => absurd hk (Nat.not_lt_zero _)⟩
    show ((p.fs ++ [(⟨newNm, 0, 0, 0, b, []⟩ : Fn)]).take i).any _ = false
    subst e
    rw [List.take_append_of_le_length (Nat.le_refl _), List.take_length]
    exact h3
end Go.Proofs.YtfkjokbhnblndaaDoor
