/- What validity says: plain. -/
import Derived.Test.YtfkjokbhnblndaaGreatDoorPgA
namespace Go.Proofs.YtfkjokbhnblndaaGreatDoor
open Go.RowKit
set_option linter.unusedVariables false
set_option linter.unusedSimpArgs false

theorem inB_iff {n a b : Int} : inB n a b = true ↔ a ≤ n ∧ n ≤ b := by simp [inB]
theorem isNm_len {l : List UInt8} (h : isNm l = true) : 1 ≤ l.length ∧ l.length ≤ 30 := by
  unfold isNm at h
  simp only [Bool.and_eq_true, decide_eq_true_eq] at h
  exact h.1
structure Valid (p : Pg) : Prop where
  f1 : 1 ≤ p.fs.length
  f2 : p.fs.length ≤ 32
  o2 : p.os.length ≤ 16
  v2 : p.vs.length ≤ 16
  os : ∀ i, i < p.os.length → ckOb p.os i = 0
  vs : ∀ i, i < p.vs.length → ckVa p i = 0
  fs : ∀ i, i < p.fs.length → ckFn p i = 0
theorem valid_iff {p : Pg} : ckPg p = 0 ↔ Valid p := by
  unfold ckPg
  constructor
  · intro h
    split at h
    · cases h
    · split at h
      · cases h
      · split at h
        · exact absurd h ‹_›
        · split at h
          · exact absurd h ‹_›
          · exact ⟨by omega, by omega, by omega, by omega, fstE_all (by omega), fstE_all (by omega), fstE_all h⟩
  · rintro ⟨h1, h2, h3, h4, h5, h6, h7⟩
    rw [if_neg (by omega), if_neg (by omega), fstE_ok h5, fstE_ok h6, fstE_ok h7]; simp
structure ObOk (l : List Ob) (i : Nat) (o : Ob) : Prop where
  nm : isNm o.name = true
  k1 : 1 ≤ o.kind
  k2 : o.kind ≤ 9
  size : inB o.size (szLo o.kind) (szHi o.kind) = true
  oth : inB o.oth (otLo o.kind) (otHi l.length o.kind) = true
  cond : o.kind = 3 → kindAt l o.oth = 1
  new : (l.take i).any (fun x => x.name == o.name) = false
theorem ckOb_iff {l : List Ob} {i : Nat} (hi : i < l.length) : ckOb l i = 0 ↔ ObOk l i l[i] := by
  unfold ckOb
  rw [List.getElem?_eq_getElem hi]
  dsimp only
  constructor
  · intro h
    cases h1 : isNm (l[i]).name <;> rw [h1] at h
    · cases h
    rw [if_neg (by simp)] at h
    cases h2 : inB (l[i]).kind 1 9 <;> rw [h2] at h
    · cases h
    rw [if_neg (by simp)] at h
    cases h3 : inB (l[i]).size (szLo (l[i]).kind) (szHi (l[i]).kind) <;> rw [h3] at h
    · rw [if_pos (.inl rfl)] at h; cases h
    cases h4 : inB (l[i]).oth (otLo (l[i]).kind) (otHi l.length (l[i]).kind) <;> rw [h4] at h
    · rw [if_pos (.inr rfl)] at h; cases h
    rw [if_neg (by simp)] at h
    split at h
    · cases h
    · rename_i h5
      cases h6 : (l.take i).any (fun x => x.name == (l[i]).name) <;> rw [h6] at h
      · exact ⟨h1, (inB_iff.1 h2).1, (inB_iff.1 h2).2, h3, h4, fun e => Classical.byContradiction fun hne => h5 ⟨e, hne⟩, h6⟩
      · cases h
  · rintro ⟨h1, h2, h3, h4, h5, h6, h7⟩
    rw [if_neg (by simp [h1]), if_neg (by rw [inB_iff.2 ⟨h2, h3⟩]; simp), if_neg (by simp [h4, h5]), if_neg (fun e => e.2 (h6 e.1)), h7]; rfl
structure VaOk (p : Pg) (i : Nat) (v : Va) : Prop where
  nm : isNm v.name = true
  init : inB v.init (-1099511627776) 1099511627776 = true
  ob : p.os.any (fun x => x.name == v.name) = false
  new : (p.vs.take i).any (fun x => x.name == v.name) = false
theorem ckVa_iff {p : Pg} {i : Nat} (hi : i < p.vs.length) : ckVa p i = 0 ↔ VaOk p i p.vs[i] := by
  unfold ckVa
  rw [List.getElem?_eq_getElem hi]
  dsimp only
  constructor
  · intro h
    cases h1 : isNm (p.vs[i]).name <;> rw [h1] at h
    · cases h
    rw [if_neg (by simp)] at h
    cases h2 : inB (p.vs[i]).init (-1099511627776) 1099511627776 <;> rw [h2] at h
    · cases h
    rw [if_neg (by simp)] at h
    cases h3 : p.os.any (fun x => x.name == (p.vs[i]).name) <;> rw [h3] at h
    · rw [if_neg (by simp)] at h
      cases h4 : (p.vs.take i).any (fun x => x.name == (p.vs[i]).name) <;> rw [h4] at h
      · exact ⟨h1, h2, h3, h4⟩
      · cases h
    · cases h
  · rintro ⟨h1, h2, h3, h4⟩
    rw [if_neg (by simp [h1]), if_neg (by rw [h2]; simp), h3, if_neg (by simp), h4]; rfl
structure FnOk (p : Pg) (i : Nat) (f : Fn) : Prop where
  nm : isNm f.name = true
  new : (p.fs.take i).any (fun x => x.name == f.name) = false
  params : inB f.params 0 8 = true
  regs : inB f.regs f.params 32 = true
  prio : inB f.prio 0 9 = true
  cl : f.cl = true → f.prio = 0
  len : f.code.length ≤ 200
  main : i = 0 → f.params ≤ 0 ∧ f.cl = false
  code : ∀ k, k < f.code.length → ckIns p f (insAt f k) = 0
theorem ckFn_iff {p : Pg} {i : Nat} (hi : i < p.fs.length) : ckFn p i = 0 ↔ FnOk p i p.fs[i] := by
  unfold ckFn
  rw [List.getElem?_eq_getElem hi]
  dsimp only
  constructor
  · intro h
    cases h1 : isNm (p.fs[i]).name <;> rw [h1] at h
    · cases h
    rw [if_neg (by simp)] at h
    cases h2 : (p.fs.take i).any (fun x => x.name == (p.fs[i]).name) <;> rw [h2] at h
    · rw [if_neg (by simp)] at h
      split at h
      · cases h
      · rename_i h3
        split at h
        · cases h
        · rename_i h4
          split at h
          · cases h
          · rename_i h5
            have a1 : inB (p.fs[i]).params 0 8 = true := by cases e : inB (p.fs[i]).params 0 8 with | true => rfl | false => exact absurd (.inl e) h3
            have a2 : inB (p.fs[i]).regs (p.fs[i]).params 32 = true := by cases e : inB (p.fs[i]).regs (p.fs[i]).params 32 with | true => rfl | false => exact absurd (.inr (.inl e)) h3
            have a3 : inB (p.fs[i]).prio 0 9 = true := by cases e : inB (p.fs[i]).prio 0 9 with | true => rfl | false => exact absurd (.inr (.inr (.inl e))) h3
            refine ⟨h1, h2, a1, a2, a3, fun e => Classical.byContradiction fun hn => h3 (.inr (.inr (.inr ⟨e, hn⟩))), by omega, fun e => ⟨?_, ?_⟩, fstE_all h⟩
            · rcases Int.lt_or_le 0 (p.fs[i]).params with hp | hp
              · exact absurd ⟨e, .inl hp⟩ h5
              · exact hp
            · cases e2 : (p.fs[i]).cl with
              | false => rfl
              | true => exact absurd ⟨e, .inr e2⟩ h5
    · cases h
  · rintro ⟨h1, h2, h3, h4, h5, h6, h7, h8, h9⟩
    rw [if_neg (by simp [h1]), h2, if_neg (by simp), if_neg (by
      rintro (e | e | e | ⟨e, e2⟩)
      · rw [h3] at e; cases e
      · rw [h4] at e; cases e
      · rw [h5] at e; cases e
      · exact e2 (h6 e)), if_neg (by omega), if_neg (by
      rintro ⟨e, e2 | e2⟩
      · have := (h8 e).1; omega
      · rw [(h8 e).2] at e2; cases e2)]
    exact fstE_ok h9
structure InsOk (p : Pg) (f : Fn) (x : Ins) (s : Sh) : Prop where
  shp : shp x.op = some s
  forb : f.cl = true → forb x.op = false
  a : ckOpd p f s.a x.a = 0
  b : ckOpd p f s.b x.b = 0
  c : ckOpd p f s.c x.c = 0
  args : ckArgs p f s.args x = 0
  recv : x.op = 65 → x.a ≠ x.c
  sel : x.op = 67 → x.a ≠ x.b ∧ x.a ≠ x.c ∧ x.b ≠ x.c
theorem ckIns_iff {p : Pg} {f : Fn} {x : Ins} : ckIns p f x = 0 ↔ ∃ s, InsOk p f x s := by
  unfold ckIns
  cases hs : shp x.op with
  | none =>
    constructor
    · intro h; cases h
    · rintro ⟨s, h⟩; rw [h.shp] at hs; cases hs
  | some s =>
    dsimp only
    constructor
    · intro h
      split at h
      · cases h
      split at h
      · exact absurd h ‹_›
      split at h
      · exact absurd h ‹_›
      split at h
      · exact absurd h ‹_›
      split at h
      · exact absurd h ‹_›
      split at h
      · cases h
      rename_i h1 h2 h3 h4 h5 h6
      refine ⟨s, hs, fun e => ?_, by omega, by omega, by omega, by omega, fun e => ?_, fun e => ?_⟩
      · cases e2 : forb x.op with
        | false => rfl
        | true => exact absurd ⟨e, e2⟩ h1
      · intro e2; exact h6 (.inl ⟨e, e2⟩)
      · exact ⟨fun e2 => h6 (.inr ⟨e, .inl e2⟩), fun e2 => h6 (.inr ⟨e, .inr (.inl e2)⟩), fun e2 => h6 (.inr ⟨e, .inr (.inr e2)⟩)⟩
    · rintro ⟨s', h⟩
      obtain rfl : s = s' := by have := h.shp; rw [hs] at this; exact Option.some.inj this
      rw [if_neg (by rintro ⟨e, e2⟩; rw [h.forb e] at e2; cases e2), if_neg (by simp [h.a]), if_neg (by simp [h.b]), if_neg (by simp [h.c]), if_neg (by simp [h.args]), if_neg (by
        rintro (⟨e, e2⟩ | ⟨e, e2 | e2 | e2⟩)
        · exact h.recv e e2
        · exact (h.sel e).1 e2
        · exact (h.sel e).2.1 e2
        · exact (h.sel e).2.2 e2)]
theorem insAt_eq {f : Fn} {k : Nat} (h : k < f.code.length) : insAt f k = f.code[k] := by simp [insAt, List.getD, h]
theorem Valid.ob {p : Pg} (h : Valid p) {i : Nat} (hi : i < p.os.length) : ObOk p.os i p.os[i] := (ckOb_iff hi).1 (h.os i hi)
theorem Valid.va {p : Pg} (h : Valid p) {i : Nat} (hi : i < p.vs.length) : VaOk p i p.vs[i] := (ckVa_iff hi).1 (h.vs i hi)
theorem Valid.fn {p : Pg} (h : Valid p) {i : Nat} (hi : i < p.fs.length) : FnOk p i p.fs[i] := (ckFn_iff hi).1 (h.fs i hi)
theorem FnOk.ins {p : Pg} {i : Nat} {f : Fn} (h : FnOk p i f) {k : Nat} (hk : k < f.code.length) : ∃ s, InsOk p f f.code[k] s := by
  have := ckIns_iff.1 (h.code k hk)
  rwa [insAt_eq hk] at this
theorem Valid.params {p : Pg} (h : Valid p) (n : Int) : ((p.fs[n.toNat]?).map Fn.params).getD 0 ≤ 8 := by
  cases e : p.fs[n.toNat]? with
  | none => simp
  | some g =>
    obtain ⟨hlt, rfl⟩ := List.getElem?_eq_some_iff.1 e
    simpa using (inB_iff.1 (h.fn hlt).params).2
theorem args_len {p : Pg} (h : Valid p) {f : Fn} {what : Int} {x : Ins} (hk : ckArgs p f what x = 0) : x.args.length ≤ 18 := by
  unfold ckArgs at hk
  split at hk
  · split at hk
    · cases hk
    · omega
  · split at hk
    · unfold ckCases at hk
      split at hk
      · cases hk
      · omega
    · unfold ckRegs at hk
      by_cases e : (x.args.length : Int) = (if what = 1 then ((p.fs[x.b.toNat]?).map Fn.params).getD 0 else 2)
      · have := h.params x.b
        by_cases ew : what = 1
        · rw [if_pos ew] at e; omega
        · rw [if_neg ew] at e; omega
      · rw [if_pos e] at hk; cases hk
end Go.Proofs.YtfkjokbhnblndaaGreatDoor
