/- The statement LexerErrorsCardSaid: for every input the law returns true, and the arguments read as before; the tables of the library that it lists are tied to the text. The frame round the walk of the law. (With it: LexerErrors, plain: tokens and reading of a text that was cut at a token.; LexerErrors: the plain law; slices.IndexFunc with the law's closure.; LexerErrors: what follows the token of a syntax error does not matter.) -/
import Derived.Stop.LaidErr
import Derived.Test.YtmokejjndkibhaaGreatDoorCards
import Derived.Test.YtmokejjndkibhaaGreatDoorTie
import Derived.WalkKit
import Derived.ProofKit
import Derived.OpenShut
import Derived.ShutString
import Derived.ChangeOld
import Derived.Below
import Derived.Deep.DeepHandedRow
import Derived.Lib.LaidTab
import Derived.Shelf.Vars
import Derived.Test.YtmokejjndkibhaaGreatDoorPart11
import Derived.Test.YtmokejjndkibhaaGreatDoorPart12

namespace Go.Proofs.YtmokejjndkibhaaGreatDoor
open Go.RowKit Ex
set_option linter.unusedVariables false
set_option linter.unusedSimpArgs false

theorem cntW_take (q : UInt8 → Bool) : ∀ (x : List UInt8) (m : Nat), cntW q (x.take m) = min (cntW q x) m
  | [], m => by simp [cntW]
  | c :: x, 0 => by simp [cntW]
  | c :: x, m + 1 => by
    rw [List.take_succ_cons, cntW_cons, cntW_cons, cntW_take q x m]
    split <;> omega
theorem skipB_take : ∀ (com : Bool) (x : List UInt8) (m : Nat), skipB com (x.take m) = min (skipB com x) m
  | com, [], m => by simp [skipB]
  | com, c :: x, 0 => by simp [skipB]
  | com, c :: x, m + 1 => by
    have h1 := skipB_take true x m
    have h2 := skipB_take false x m
    rw [List.take_succ_cons]
    simp only [skipB, h1, h2]
    split
    · omega
    · split
      · omega
      · split
        · omega
        · split <;> omega
theorem pre_take {z x : List UInt8} {m : Nat} (hm : z.length ≤ m) : z.isPrefixOf (x.take m) = z.isPrefixOf x := by
  rw [Bool.eq_iff_iff, List.isPrefixOf_iff_prefix, List.isPrefixOf_iff_prefix]
  constructor
  · exact fun h => h.trans (List.take_prefix _ _)
  · intro h
    rw [List.prefix_take_iff]
    exact ⟨h, hm⟩
theorem sg2_two : ∀ z ∈ sg2, z.length = 2 := by decide
theorem sgLen_take {x : List UInt8} {m : Nat} (h1 : 1 ≤ m) (hm : sgLen x ≤ m) : sgLen (x.take m) = sgLen x := by
  by_cases h2 : 2 ≤ m
  · have e : ∀ l : List (List UInt8), (∀ z ∈ l, z ∈ sg2) → (l.any fun z => z.isPrefixOf (x.take m)) = l.any fun z => z.isPrefixOf x := by
      intro l
      induction l with
      | nil => intro _; rfl
      | cons z l ih =>
        intro hz
        rw [List.any_cons, List.any_cons, ih (fun z' h' => hz z' (List.mem_cons_of_mem _ h')), pre_take (by rw [sg2_two z (hz z (List.mem_cons_self ..))]; exact h2)]
    unfold sgLen
    rw [e sg2 (fun _ h => h)]
    obtain ⟨m, rfl⟩ : ∃ n, m = n + 1 := ⟨m - 1, by omega⟩
    cases x with
    | nil => rfl
    | cons c x => rfl
  · obtain rfl : m = 1 := by omega
    have hn : (sg2.any fun z => z.isPrefixOf x) = false := by
      cases hb : (sg2.any fun z => z.isPrefixOf x) with
      | false => rfl
      | true => unfold sgLen at hm; rw [if_pos hb] at hm; omega
    have hn2 : (sg2.any fun z => z.isPrefixOf (x.take 1)) = false := by
      cases hb : (sg2.any fun z => z.isPrefixOf (x.take 1)) with
      | false => rfl
      | true =>
        obtain ⟨z, hz, hp⟩ := List.any_eq_true.1 hb
        have h3 := (List.isPrefixOf_iff_prefix.1 hp).length_le
        rw [sg2_two z hz, List.length_take] at h3
        omega
    unfold sgLen
    rw [hn, hn2]
    cases x with
    | nil => rfl
    | cons c x => rfl
theorem oneT_take {x : List UInt8} {m : Nat} {t : Tk} {p : Int} (hx : x ≠ []) (h : oneT x p = (t, 0)) (hm : t.text.length ≤ m) : oneT (x.take m) p = (t, 0) := by
  have h1 := (oneT_text hx (p := p) (by rw [h])).1
  rw [h] at h1
  dsimp only at h1
  cases x with
  | nil => exact absurd rfl hx
  | cons c x =>
    obtain ⟨m, rfl⟩ : ∃ n, m = n + 1 := ⟨m - 1, by omega⟩
    have e1 := cntW_take insC (c :: x) (m + 1)
    have e2 := cntW_take digB (c :: x) (m + 1)
    have e3 := fun hs => sgLen_take (x := c :: x) (m := m + 1) (by omega) hs
    have l1 := cntW_le insC (c :: x)
    have l2 := cntW_le digB (c :: x)
    have l3 := sgLen_le (c :: x)
    have t1 : ∀ n, n ≤ m + 1 → ((c :: x).take (m + 1)).take n = (c :: x).take n := fun n hn => by rw [List.take_take, Nat.min_eq_left hn]
    have g5 : ∀ n : Nat, ((c :: x).take (m + 1))[n]? = if n < m + 1 then (c :: x)[n]? else none := fun n => List.getElem?_take
    rw [List.take_succ_cons] at e1 e2 e3 t1 g5 ⊢
    unfold oneT at h ⊢
    dsimp only at h ⊢
    split at h
    · rename_i g1
      rw [if_pos g1]
      split at h
      · simp at h
      · rename_i g2
        simp only [Prod.mk.injEq, and_true] at h
        subst h
        dsimp only at hm
        rw [List.length_take, Nat.min_eq_left l1] at hm
        rw [e1, Nat.min_eq_left hm, if_neg g2, t1 _ hm]
    · rename_i g1
      rw [if_neg g1]
      split at h
      · rename_i g2
        rw [if_pos g2]
        split at h
        · simp at h
        · rename_i g3
          split at h
          · simp at h
          · rename_i g4
            simp only [Prod.mk.injEq, and_true] at h
            subst h
            dsimp only at hm
            rw [List.length_take, Nat.min_eq_left l2] at hm
            rw [e2, Nat.min_eq_left hm, t1 _ hm, if_neg ?_, if_neg g4]
            intro hc
            refine g3 (hc.imp_right fun ha => ?_)
            rw [g5] at ha
            split at ha
            · exact ha
            · simp at ha
      · rename_i g2
        rw [if_neg g2]
        split at h
        · simp at h
        · rename_i g3
          simp only [Prod.mk.injEq, and_true] at h
          subst h
          dsimp only at hm
          rw [List.length_take, Nat.min_eq_left l3] at hm
          rw [e3 hm, if_neg g3, t1 _ hm]
/-- where tokens stand -/
theorem Toks.pos_ge {s : List UInt8} {a : Nat} {l : List Tk} {p e : Int} (h : Toks s a l p e) : e = 0 → a ≤ s.length → ∀ t ∈ l, ∃ q : Nat, t.pos = (q : Int) ∧ a ≤ q ∧ q ≤ s.length := by
  induction h with
  | fin h =>
    intro _ ha t ht
    obtain rfl := List.mem_singleton.1 ht
    exact ⟨s.length, rfl, ha, Nat.le_refl _⟩
  | bad h ht h0 => intro he; exact absurd he h0
  | cons h ht h1 ih =>
    rename_i a t l
    intro _ ha x hx
    obtain ⟨g1, g2, g3, g4, g5⟩ := oneT_at h ht
    have hab : a ≤ blk s a := by unfold blk; omega
    rcases List.mem_cons.1 hx with rfl | hx
    · exact ⟨blk s a, g4, hab, by omega⟩
    · obtain ⟨q, h2, h3, h4⟩ := ih rfl g2 x hx
      exact ⟨q, h2, by omega, h4⟩
  | later h ht h0 h1 ih => intro he; exact absurd he h0
theorem Toks.asc {s : List UInt8} {a : Nat} {l : List Tk} {p e : Int} (h : Toks s a l p e) : e = 0 → a ≤ s.length → l.Pairwise (fun x y => x.pos < y.pos) := by
  induction h with
  | fin h => intro _ _; exact List.pairwise_singleton _ _
  | bad h ht h0 => intro he; exact absurd he h0
  | cons h ht h1 ih =>
    intro _ ha
    obtain ⟨g1, g2, g3, g4, g5⟩ := oneT_at h ht
    refine List.Pairwise.cons (fun y hy => ?_) (ih rfl g2)
    obtain ⟨q, h2, h3, h4⟩ := h1.pos_ge rfl g2 y hy
    rw [g4, h2]; omega
  | later h ht h0 h1 ih => intro he; exact absurd he h0
/-- the tokens before a token, other text behind them -/
theorem Toks.upto {s : List UInt8} (y : List UInt8) {a : Nat} {l : List Tk} {p e : Int} (h : Toks s a l p e) : e = 0 → a ≤ s.length → ∀ (k : Nat) (hk : k < l.length) (q : Nat), (l[k]).pos = (q : Int) → ∀ {l' : List Tk}, Toks (s.take q ++ 10 :: y) (q + 1) l' 0 0 → Toks (s.take q ++ 10 :: y) a (l.take k ++ l') 0 0 := by
  have hdrop : ∀ q b : Nat, q ≤ s.length → b ≤ q → (s.take q ++ 10 :: y).drop b = (s.drop b).take (q - b) ++ 10 :: y := fun q b hq hb => by
    rw [List.drop_append_of_le_length (by rw [List.length_take]; omega), List.drop_take]
  have hdrop2 : ∀ q : Nat, q ≤ s.length → (s.take q ++ 10 :: y).drop (q + 1) = y := fun q hq => by
    have e : s.take q ++ 10 :: y = (s.take q ++ [10]) ++ y := by simp
    rw [e, List.drop_append, List.drop_eq_nil_of_le (by simp; omega), List.nil_append]
    have e0 : q + 1 - (s.take q ++ [10]).length = 0 := by rw [List.length_append, List.length_take]; simp; omega
    rw [e0]; rfl
  have hblk : ∀ q a : Nat, q ≤ s.length → a ≤ q → blk (s.take q ++ 10 :: y) a = if blk s a < q then blk s a else blk (s.take q ++ 10 :: y) (q + 1) := fun q a hq ha => by
    unfold blk
    rw [hdrop q a hq ha, hdrop2 q hq, skipB_app, skipB_take, List.length_take, List.length_drop]
    split
    · rename_i h1; rw [if_pos (by omega)]; omega
    · rename_i h1; rw [if_neg (by omega)]; omega
  induction h with
  | fin h =>
    rename_i a
    intro _ ha k hk q hq l' hl'
    obtain rfl : k = 0 := by simpa using hk
    have hq' : q = s.length := by simp only [List.getElem_cons_zero] at hq; omega
    subst hq'
    have hb := hblk s.length a (Nat.le_refl _) ha
    rw [if_neg (by omega)] at hb
    simp only [List.take_zero, List.nil_append]
    exact hl'.of_blk hb
  | bad h ht h0 => intro he; exact absurd he h0
  | cons h ht h1 ih =>
    rename_i a t l
    intro _ ha k hk q hq l' hl'
    obtain ⟨g1, g2, g3, g4, g5⟩ := oneT_at h ht
    have hab : a ≤ blk s a := by unfold blk; omega
    cases k with
    | zero =>
      have hq' : q = blk s a := by simp only [List.getElem_cons_zero] at hq; rw [g4] at hq; omega
      have hb := hblk q a (by omega) (by omega)
      rw [if_neg (by omega)] at hb
      simp only [List.take_zero, List.nil_append]
      exact hl'.of_blk hb
    | succ k =>
      have hk' : k < l.length := by simpa using hk
      have hq2 : (l[k]).pos = (q : Int) := by simpa using hq
      obtain ⟨q', h2, h3, h4⟩ := h1.pos_ge rfl g2 l[k] (List.getElem_mem _)
      have hqq : q' = q := by rw [hq2] at h2; omega
      subst hqq
      have hb := hblk q' a h4 (by omega)
      rw [if_pos (by omega)] at hb
      have hne : s.drop (blk s a) ≠ [] := by intro e; have := congrArg List.length e; simp at this; omega
      have hne2 : (s.drop (blk s a)).take (q' - blk s a) ≠ [] := by intro e; have := congrArg List.length e; simp at this; omega
      have h5 : oneT ((s.take q' ++ 10 :: y).drop (blk (s.take q' ++ 10 :: y) a)) ((blk (s.take q' ++ 10 :: y) a : Nat) : Int) = (t, 0) := by
        rw [hb, hdrop q' _ h4 (by omega), oneT_app hne2 (.inl rfl), oneT_take hne ht (by omega)]
      rw [List.take_succ_cons, List.cons_append]
      refine .cons (by rw [hb]; simp; omega) h5 ?_
      rw [hb]
      exact ih rfl g2 k hk' q' hq2 hl'
  | later h ht h0 h1 ih => intro he; exact absurd he h0
/-- tokens behind other text -/
theorem Toks.shift {y : List UInt8} (pre : List UInt8) {a : Nat} {l : List Tk} {p e : Int} (h : Toks y a l p e) : e = 0 → a ≤ y.length → Toks (pre ++ y) (pre.length + a) (l.map (shT pre.length)) 0 0 := by
  have hdrop : ∀ k, (pre ++ y).drop (pre.length + k) = y.drop k := fun k => by
    rw [List.drop_append, List.drop_eq_nil_of_le (by omega), List.nil_append, show pre.length + k - pre.length = k by omega]
  have hblk : ∀ a, blk (pre ++ y) (pre.length + a) = pre.length + blk y a := fun a => by
    unfold blk; rw [hdrop]; omega
  induction h with
  | fin h =>
    intro _ ha
    have := Toks.fin (s := pre ++ y) (a := pre.length + _) (by rw [hblk]; simp; exact h)
    simp only [List.map_cons, List.map_nil, shT]
    rw [show ((y.length : Int) + (pre.length : Nat)) = (((pre ++ y).length : Nat) : Int) by simp; omega]
    exact this
  | bad h ht h0 => intro he; exact absurd he h0
  | cons h ht h1 ih =>
    rename_i a t l
    intro _ ha
    obtain ⟨g1, g2, g3, g4, g5⟩ := oneT_at h ht
    have hne : y.drop (blk y a) ≠ [] := by intro e; have := congrArg List.length e; simp at this; omega
    have h5 : oneT ((pre ++ y).drop (blk (pre ++ y) (pre.length + a))) ((blk (pre ++ y) (pre.length + a) : Nat) : Int) = (shT pre.length t, 0) := by
      rw [hblk, hdrop, oneT_pos ht hne]
      simp only [shT, Prod.mk.injEq, and_true]
      rw [g4]
      obtain ⟨t1, t2, t3, t4⟩ := t
      simp; omega
    simp only [List.map_cons]
    refine .cons (by rw [hblk]; simp; omega) h5 ?_
    rw [hblk, show pre.length + blk y a + (shT pre.length t).text.length = pre.length + (blk y a + t.text.length) by show pre.length + blk y a + t.text.length = _; omega]
    exact ih rfl g2
  | later h ht h0 h1 ih => intro he; exact absurd he h0
/-- what reads badly reads badly elsewhere, if the tokens up to that place are the same -/
theorem Rd.bad_emb {l l' : List Tk} {m : Nat} (h : Emb l l' 0 (m + 1)) {md : Md} {k : Nat} {r : Res} (hr : Rd l md k r) : ∀ {j : Nat}, r = .bad j → 1 ≤ md.lvl → k ≤ l.length → j ≤ m → Rd l' md k (.bad j) := by
  have hml : m < l.length := (h m (by omega)).1
  have sg : ∀ k x, k ≤ m → sgB l' k x = sgB l k x := fun k x hk => by have := h.sg (k := k) (by omega) x; rwa [Nat.zero_add] at this
  have op : ∀ k, k ≤ m → opAt l' k = opAt l k := fun k hk => by have := h.op (k := k) (by omega); rwa [Nat.zero_add] at this
  have ok : ∀ {md k e j}, Rd l md k (.ok e j) → 1 ≤ md.lvl → k ≤ l.length → j ≤ m → Rd l' md k (.ok e j) := fun {md k e j} hr h1 h2 h3 => by
    have h4 : Emb l l' 0 m := fun i hi => h i (by omega)
    have := Rd.emb h4 (by rw [Nat.zero_add]; exact op m (Nat.le_refl _)) hr rfl h1 h2 h3
    rwa [Nat.zero_add, Nat.zero_add] at this
  induction hr with
  | num => intro j hr; cases hr
  | nam => intro j hr; cases hr
  | neg => intro j hr; cases hr
  | negB h0 h1 ih =>
    intro j hr hl hk hj; cases hr
    obtain ⟨hs, _⟩ := sgB_some h0
    have hb := h1.bound (by decide) (by omega)
    simp only [Res.end_] at hb
    exact .negB (by rw [sg _ _ (by omega)]; exact h0) (ih rfl (by decide) (by omega) hj)
  | no => intro j hr; cases hr
  | noB h0 h1 ih =>
    intro j hr hl hk hj; cases hr
    obtain ⟨hs, _⟩ := sgB_some h0
    have hb := h1.bound (by decide) (by omega)
    simp only [Res.end_] at hb
    exact .noB (by rw [sg _ _ (by omega)]; exact h0) (ih rfl (by decide) (by omega) hj)
  | par => intro j hr; cases hr
  | parN h0 h1 h2 ih =>
    intro j hr hl hk hj; cases hr
    obtain ⟨hs, _⟩ := sgB_some h0
    have hb := h1.bound (by decide) (by omega)
    simp only [Res.end_] at hb
    exact .parN (by rw [sg _ _ (by omega)]; exact h0) (ok h1 (by decide) (by omega) hj) (by rw [sg _ _ hj]; exact h2)
  | parB h0 h1 ih =>
    intro j hr hl hk hj; cases hr
    obtain ⟨hs, _⟩ := sgB_some h0
    have hb := h1.bound (by decide) (by omega)
    simp only [Res.end_] at hb
    exact .parB (by rw [sg _ _ (by omega)]; exact h0) (ih rfl (by decide) (by omega) hj)
  | out h0 => intro j hr hl hk hj; cases hr; omega
  | bad h0 h1 h2 h3 h4 h5 =>
    rename_i k1
    intro j hr hl hk hj; cases hr
    obtain ⟨g1, g2, g3⟩ := h k1 (by omega)
    have g2' : k1 < l'.length := by omega
    have g3' : SameK l[k1] l'[k1] := by
      have e : l'[0 + k1]'g2 = l'[k1] := by simp only [Nat.zero_add]
      rw [e] at g3; exact g3
    exact .bad g2' (fun e => by rw [← g3'.num]; exact h1 (by rw [g3'.1]; exact e)) (fun e => by rw [← g3'.nam]; exact h2 (by rw [g3'.1]; exact e)) (by rw [sg _ _ hj]; exact h3) (by rw [sg _ _ hj]; exact h4) (by rw [sg _ _ hj]; exact h5)
  | six hp h0 ih => intro j hr hl hk hj; exact .six hp (ih hr (by decide) hk hj)
  | binB hp h0 ih => intro j hr hl hk hj; exact .binB hp (ih hr (by simp only [Md.lvl] at *; omega) hk hj)
  | bin hp h0 h1 ih ih1 =>
    intro j hr hl hk hj
    subst hr
    have hb := h0.bound (by simp only [Md.lvl] at *; omega) hk
    simp only [Res.end_] at hb
    have hb1 := h1.bound (by simpa only [Md.lvl] using hl) hb.2.1
    simp only [Res.end_] at hb1
    exact .bin hp (ok h0 (by simp only [Md.lvl] at *; omega) hk (by omega)) (ih1 rfl (by simpa only [Md.lvl] using hl) hb.2.1 hj)
  | fin => intro j hr; cases hr
  | argB h0 h1 ih =>
    intro j hr hl hk hj; cases hr
    have hlt := opAt_lt h0 (by simpa only [Md.lvl] using hl)
    have hb := h1.bound (by simp only [Md.lvl] at *; omega) (by omega)
    simp only [Res.end_] at hb
    exact .argB (by rw [op _ (by omega)]; exact h0) (ih rfl (by simp only [Md.lvl] at *; omega) (by omega) hj)
  | three => intro j hr; cases hr
  | more hp h0 h1 h2 ih ih2 =>
    intro j hr hl hk hj
    subst hr
    have hlt := opAt_lt h0 (by simpa only [Md.lvl] using hl)
    have hb := h1.bound (by simp only [Md.lvl] at *; omega) (by omega)
    simp only [Res.end_] at hb
    have hb1 := h2.bound (by simpa only [Md.lvl] using hl) hb.2.1
    simp only [Res.end_] at hb1
    have := ih2 rfl (by simpa only [Md.lvl] using hl) hb.2.1 hj
    rw [← op _ (by omega)] at this
    exact .more hp (by rw [op _ (by omega)]; exact h0) (ok h1 (by simp only [Md.lvl] at *; omega) (by omega) (by omega)) this
end Go.Proofs.YtmokejjndkibhaaGreatDoor

namespace Go.Proofs.YtmokejjndkibhaaGreatDoor
open Go.RowKit Go.Shelf Ex
set_option linter.unusedVariables false
set_option linter.unusedSimpArgs false

theorem pc_ne3 (k o : Int) (n : List UInt8) (v : Int) (m : Nat) : pc' k o n v m ≠ 3 := by
  unfold pc'
  split
  · decide
  · split
    · decide
    · split
      · decide
      · split
        · decide
        · split <;> decide
mutual
theorem fe_ne3 : ∀ e : Ex, e.fe ≠ 3
  | .mk k o n v es => by
    rw [Ex.fe]
    split
    · exact pc_ne3 _ _ _ _ _
    · exact fes_ne3 es
theorem fes_ne3 : ∀ es : List Ex, Ex.fes es ≠ 3
  | [] => by rw [Ex.fes]; decide
  | e :: es => by
    rw [Ex.fes]
    split
    · exact fe_ne3 e
    · exact fes_ne3 es
end
theorem chk_ne3 (e : Ex) : e.chk ≠ 3 := by
  unfold Ex.chk
  split
  · decide
  · split
    · decide
    · exact fe_ne3 e
theorem getD_lt {l : List Tk} {n : Nat} (h : n < l.length) : l.getD n tk0 = l[n] := by rw [List.getD_eq_getElem?_getD, List.getElem?_eq_getElem h]; rfl
theorem err_law {s tail : List UInt8} (hs : s.length ≤ 300) (ht : tail.length ≤ 300) (he : (toksR s).2.2 = 0) (hf : (toksR tail).2.2 = 0) {r : Res} (hR : Rd (toksR s).1 (.bin 1) 0 r) (h3 : (psR s r).2.2 = 3) :
    ∃ n, ∃ hn : n < (toksR s).1.length, ((toksR s).1[n]).pos = (psR s r).2.1 ∧ (∀ i (hi : i < (toksR s).1.length), ((toksR s).1[i]).pos = (psR s r).2.1 → i = n) ∧
      ∀ hn1 : n + 1 < (toksR s).1.length, ∃ q : Nat, ((toksR s).1[n + 1]).pos = (q : Int) ∧ q ≤ s.length ∧ ∃ r', Rd (toksR (s.take q ++ 10 :: tail)).1 (.bin 1) 0 r' ∧ psR (s.take q ++ 10 :: tail) r' = (exZ, (psR s r).2.1, 3) := by
  obtain ⟨_, hp0, ts, hts, _, _⟩ := toksR_form he
  have hT := toksR_toks s (by omega)
  rw [he] at hT
  have hF := toksR_toks tail (by omega)
  rw [hf] at hF
  have hps : psR s r = psL (toksR s).1 r := by unfold psR; rw [if_neg (by simp [he])]
  rw [hps] at h3 ⊢
  generalize (toksR s).1 = l at *
  generalize (toksR s).2.1 = p0 at *
  generalize (toksR tail).1 = lt at *
  generalize (toksR tail).2.1 = p1 at *
  have hlen : l.length = ts.length + 1 := by rw [hts]; simp
  have hend : (l[ts.length]'(by omega)).kind = 0 := by
    have : l[ts.length]'(by omega) = ⟨0, [], 0, s.length⟩ := by
      subst hts
      simp
    rw [this]
  have hst := hR.stop (by omega) hend (by decide) (Nat.zero_le _)
  have hcl : ∃ n, ∃ hn : n < l.length, (l[n]).pos = (psL l r).2.1 ∧ (r = .bad n ∨ ∃ x, r = .ok x n ∧ (l[n]).kind ≠ 0) := by
    cases r with
    | bad n =>
      simp only [Res.end_] at hst
      refine ⟨n, by omega, ?_, .inl rfl⟩
      unfold psL
      dsimp only
      rw [getD_lt (show n < _ by omega)]
    | ok x n =>
      simp only [Res.end_] at hst
      have hg : l.getD n tk0 = l[n]'(by omega) := getD_lt (by omega)
      refine ⟨n, by omega, ?_⟩
      unfold psL at h3 ⊢
      dsimp only at h3 ⊢
      rw [hg] at h3 ⊢
      by_cases hk : (l[n]'(by omega)).kind ≠ 0
      · rw [if_pos hk]
        exact ⟨rfl, .inr ⟨x, rfl, hk⟩⟩
      · rw [if_neg hk] at h3
        by_cases hc : x.chk ≠ 0
        · rw [if_pos hc] at h3
          exact absurd h3 (chk_ne3 x)
        · rw [if_neg hc] at h3
          exact absurd (show (0 : Int) = 3 from h3) (by decide)
  obtain ⟨n, hn, hat, hrn⟩ := hcl
  have hasc := List.pairwise_iff_getElem.1 (hT.asc rfl (Nat.zero_le _))
  refine ⟨n, hn, hat, fun i hi hp => ?_, fun hn1 => ?_⟩
  · rcases Nat.lt_trichotomy i n with h | h | h
    · have := hasc i n hi hn h; omega
    · exact h
    · have := hasc n i hn hi h; omega
  · obtain ⟨q, hq, _, hqs⟩ := hT.pos_ge rfl (Nat.zero_le _) l[n + 1] (List.getElem_mem _)
    refine ⟨q, hq, hqs, ?_⟩
    have hpl : (s.take q ++ [10]).length = q + 1 := by rw [List.length_append, List.length_take]; simp; omega
    have hX : s.take q ++ 10 :: tail = (s.take q ++ [10]) ++ tail := by simp
    have h1 := hF.shift (s.take q ++ [10]) rfl (Nat.zero_le _)
    rw [hpl, ← hX] at h1
    have h2 := hT.upto tail rfl (Nat.zero_le _) (n + 1) hn1 q hq h1
    have hXl : (s.take q ++ 10 :: tail).length ≤ 4000 := by rw [List.length_append, List.length_take, List.length_cons]; omega
    have h4 := h2.toksR hXl
    generalize hL : l.take (n + 1) ++ lt.map (shT (q + 1)) = L at *
    have hLl : n + 1 ≤ L.length := by rw [← hL, List.length_append, List.length_take]; omega
    have hget : ∀ i (h : i < n + 1), L[i]'(by omega) = l[i]'(by omega) := fun i h => by
      subst hL
      rw [List.getElem_append_left (by rw [List.length_take]; omega), List.getElem_take]
    have hE : Emb l L 0 (n + 1) := fun i hi => by
      refine ⟨by omega, by omega, ?_⟩
      have e : L[0 + i]'(by omega) = l[i]'(by omega) := by
        have := hget i hi
        simp only [Nat.zero_add]
        exact this
      rw [e]
      exact ⟨rfl, rfl, rfl⟩
    have hgd : L.getD n tk0 = l[n] := by rw [getD_lt (show n < _ by omega)]; exact hget n (by omega)
    rcases hrn with rfl | ⟨x, rfl, hk⟩
    · refine ⟨.bad n, by rw [h4]; exact Rd.bad_emb hE hR rfl (by decide) (Nat.zero_le _) (Nat.le_refl _), ?_⟩
      unfold psR
      rw [h4]
      dsimp only
      rw [if_neg (by decide), ← hat]
      unfold psL
      dsimp only
      rw [hgd]
    · have hrd := Rd.emb (m := n) (fun i hi => hE i (by omega)) (by have := hE.op (k := n) (by omega); exact this) hR rfl (by decide) (Nat.zero_le _) (Nat.le_refl _)
      rw [Nat.zero_add, Nat.zero_add] at hrd
      refine ⟨.ok x n, by rw [h4]; exact hrd, ?_⟩
      unfold psR
      rw [h4]
      dsimp only
      rw [if_neg (by decide), ← hat]
      unfold psL
      dsimp only
      rw [hgd, if_pos hk]

set_option maxHeartbeats 1000000 in
theorem errClos_any (k : Int) (t : List UInt8) (v p at0 : Int) (g : Nat) (w : World) (hg : w.cell? ⟨g, 0, none⟩ = some (.int .i64 at0)) :
    Gives Tryz.prog 16 #[.agg #[.int .i64 k, sV t, .int .i64 v, .int .i64 p], .pointer (some ⟨g, 0, none⟩)] w (.bool (p == at0)) := by
  unfold Gives
  have hgl : g < w.heap.size := cell_lt' hg
  go_enter Tryz.func16, Tryz.ntmps16
  go_wp2
  go_ret
  exact ⟨rfl, (Below.refl _ w).alloc (Nat.le_refl _) _⟩
set_option maxRecDepth 100000 in
set_option maxHeartbeats 2000000 in
theorem ErrIx_any (l : List Tk) (x : Option Addr) (c g : Nat) (at0 : Int) (n : Nat) (hn : n < l.length) (hp : (l[n]).pos = at0) (hu : ∀ i (hi : i < l.length), (l[i]).pos = at0 → i = n) (hl : l.length ≤ 10000) (w : World) (hA : TkRow w x l) (hg : w.cell? ⟨g, 0, none⟩ = some (.int .i64 at0)) :
    Gives Tryz.prog 15 #[.slice x l.length c, .func (.func 16) #[] #[.pointer (some ⟨g, 0, none⟩)]] w (.int .i64 (n : Int)) := by
  unfold Gives
  have en := enters_fn Tryz.func16 (by kernel_rfl) rfl
  have HA := Lib.hid (fun W (hW : Ext w W) => hA.ext hW)
  have HG := Lib.hid hg
  have HU := Lib.hid hu
  have HPP := Lib.hid hp
  clear hA hg hu hp
  obtain ⟨m, hm⟩ : ∃ m, l.length = m := ⟨_, rfl⟩
  rw [hm] at hl
  rw [hm]
  have HN := Lib.hid hm
  have hnm : n < m := by omega
  have HNL := Lib.hid hn
  clear hm
  go_enter Tryz.func15, Tryz.ntmps15
  go_wp2
  go_loopw [8] (fun i wr => ∃ j : Nat, j ≤ n ∧ i = .int .i64 (j : Int) ∧ Ext w wr) (fun i _ => n + 1 - (intOf i).toNat)
  case atStart => exact ⟨0, Nat.zero_le _, rfl, Below.refl _ _⟩
  case round =>
    obtain ⟨j, hj, rfl, hE⟩ := hrel
    have HE := Lib.hid hE
    have hlt : j < m := by omega
    have HJ := Lib.hid (show j < l.length from by rw [HN.out]; exact hlt)
    obtain ⟨b, off, hx, c0, c1, c2, c3⟩ := HA.out wr HE.out j HJ.out
    subst hx
    have hg : wr.cell? ⟨g, 0, none⟩ = some (.int .i64 at0) := (hE.below.cell (p := ⟨g, 0, none⟩) (cell_lt' HG.out)).trans HG.out
    by_cases hjn : j = n
    · subst hjn
      have FC := Lib.hid (errClos_any (l[j]'HJ.out).kind (l[j]'HJ.out).text (l[j]'HJ.out).val at0 at0 g wr hg)
      rw [HPP.out] at c3
      generalize (l[j]'HJ.out).kind = tk at *
      generalize (l[j]'HJ.out).text = tx at *
      generalize (l[j]'HJ.out).val = tv at *
      rw [show (at0 == at0) = true by simp] at FC
      clear hE hg
      go_wp2_with fail
      refine FC.out.mono ?_
      intro w1 hB1
      have HB1 := Lib.hid (Ext.trans HE.out hB1)
      clear hB1
      go_wp2
      go_ret
      exact ⟨rfl, HB1.out⟩
    · have hne : ((l[j]'HJ.out).pos == at0) = false := by
        cases hb : ((l[j]'HJ.out).pos == at0) with
        | false => rfl
        | true => exact absurd (HU.out j HJ.out (by simpa using hb)) hjn
      have FC := Lib.hid (errClos_any (l[j]'HJ.out).kind (l[j]'HJ.out).text (l[j]'HJ.out).val (l[j]'HJ.out).pos at0 g wr hg)
      rw [hne] at FC
      generalize (l[j]'HJ.out).kind = tk at *
      generalize (l[j]'HJ.out).text = tx at *
      generalize (l[j]'HJ.out).val = tv at *
      generalize (l[j]'HJ.out).pos = tp at *
      clear hE hg hne
      go_wp2_with fail
      refine FC.out.mono ?_
      intro w1 hB1
      have HB1 := Lib.hid (Ext.trans HE.out hB1)
      clear hB1
      go_wp2
      go_roundw
      case rel => exact ⟨j + 1, by omega, by go_num, HB1.out⟩
      case measure => simp [intOf]; omega
end Go.Proofs.YtmokejjndkibhaaGreatDoor

namespace Go.Proofs.YtmokejjndkibhaaGreatDoor
open Go.RowKit Go.Shelf Ex
set_option linter.unusedVariables false
set_option linter.unusedSimpArgs false
attribute [local go_sem] sB_extract

theorem rd_ofE (s : List UInt8) : ∃ r, (toksR s).2.2 = 0 → Rd (toksR s).1 (.bin 1) 0 r := by
  obtain ⟨r, hr⟩ := Rd.all (toksR s).1
  exact ⟨r, fun _ => hr⟩
set_option maxRecDepth 100000 in
set_option maxHeartbeats 8000000 in
theorem lexerErrors_walk (a0 a1 : ByteArray) (w : World) (h0 : a0.size ≤ 140737488351232) (h1 : a1.size ≤ 140737488351232) (hTab : TabW w) (hM : MaxL w) : Gives Tryz.prog 4 #[.string a0, .string a1] w (.bool true) := by
  obtain ⟨s, rfl⟩ := sB_of a0
  obtain ⟨tl, rfl⟩ := sB_of a1
  have hsz := sB_size s
  have htz := sB_size tl
  have KA := Lib.hid (fun W (hW : Ext w W) => lxAwake_any W (hTab.below hW) (hM.ext hW))
  unfold Gives
  by_cases hl : 300 < s.length
  · clear hTab hM
    go_enter Tryz.func4, Tryz.ntmps4
    go_wp2_with fail
    refine (KA.out _ (Below.refl _ _)).mono ?_
    intro wz hE
    go_wp2
    go_ret
    exact ⟨rfl, hE⟩
  · by_cases hl2 : 300 < tl.length
    · clear hTab hM
      go_enter Tryz.func4, Tryz.ntmps4
      go_wp2_with fail
      refine (KA.out _ (Below.refl _ _)).mono ?_
      intro wz hE
      go_wp2
      go_ret
      exact ⟨rfl, hE⟩
    · obtain ⟨r, hr⟩ := rd_ofE s
      have KT1 := Lib.hid (fun W (hW : Ext w W) => Tokens_any s W (by omega))
      have KT2 := Lib.hid (fun W (hW : Ext w W) => Tokens_any tl W (by omega))
      have KP := Lib.hid (fun W (hW : Ext w W) => Parse_any s W (by omega) (hTab.below hW) (hM.ext hW) r hr)
      by_cases hgood : (toksR s).2.2 = 0 ∧ (toksR tl).2.2 = 0 ∧ (psR s r).2.2 = 3
      · obtain ⟨he, hf, hg⟩ := hgood
        obtain ⟨n, hn, hat, hu, hlaw⟩ := err_law (s := s) (tail := tl) (by omega) (by omega) he hf (hr he) hg
        have hx : (psR s r).1 = exZ := ps_bad (by rw [hg]; decide)
        have hlen : (toksR s).1.length ≤ 10000 := by
          obtain ⟨_, _, ts, h1, h2, _⟩ := toksR_form he
          rw [h1]; simp; omega
        have hP2 : ∀ hn1 : n + 1 < (toksR s).1.length, ∃ q : Nat, ((toksR s).1[n + 1]).pos = (q : Int) ∧ q ≤ s.length ∧ ∀ W, Ext w W → Calls Tryz.prog 11 #[sV (s.take q ++ 10 :: tl)] W fun e w' => ∃ qq cc, e = .returned (.tuple #[exZ.val qq cc, .int .i64 (psR s r).2.1, .int .i64 3]) ∧ AtB (W.heap.size ≤ ·) w' qq exZ ∧ Ext W w' := fun hn1 => by
          obtain ⟨q, g1, g2, r', hr', hps'⟩ := hlaw hn1
          refine ⟨q, g1, g2, fun W hW => ?_⟩
          have := Parse_any (s.take q ++ 10 :: tl) W (by rw [List.length_append, List.length_take, List.length_cons]; omega) (hTab.below hW) (hM.ext hW) r' (fun _ => hr')
          rw [hps'] at this
          exact this
        have HP2 := Lib.hid hP2
        have HIX := Lib.hid (fun x c g W => ErrIx_any (toksR s).1 x c g (psR s r).2.1 n hn hat hu hlen W)
        rw [he] at KT1
        rw [hf] at KT2
        rw [hx, hg] at KP
        clear hTab hM hr he hf hg hx hlaw hP2 hu hat
        generalize (psR s r).2.1 = at1 at *
        generalize (toksR s).1 = l at *
        generalize (toksR s).2.1 = p0 at *
        generalize (toksR tl).1 = lt at *
        generalize (toksR tl).2.1 = p1 at *
        have HN := Lib.hid hn
        obtain ⟨m, hm⟩ : ∃ m, l.length = m := ⟨_, rfl⟩
        have hnm : n < m := by omega
        rw [hm] at hlen
        have HM := Lib.hid hm
        simp only [hm] at HIX
        clear hn
        dsimp only [Ex.val, exZ, Ex.kind, Ex.op, Ex.name, Ex.value, Ex.args, List.length_nil] at KP HP2
        have KS := Lib.hid (fun q c W => (show Gives Tryz.prog 13 #[.agg #[.int .i64 0, .int .i64 0, sV [], .int .i64 0, .slice q 0 c], .agg #[.int .i64 0, .int .i64 0, .string { data := #[] }, .int .i64 0, .slice none 0 0]] W (.bool true) from SameZ_any q none c 0 W))
        clear hm
        go_enter Tryz.func4, Tryz.ntmps4
        go_wp2_with fail
        refine (show Calls _ _ _ _ _ from KT1.out _ (Below.refl _ _)).mono ?_
        rintro _ w1 ⟨v, rfl, hR1, hE1⟩
        obtain ⟨pr, cr, rfl, hP, hcap⟩ := hR1.at
        have HP := Lib.hid (fun W (hW : Ext w1 W) => hP.ext hW)
        have HE1 := Lib.hid hE1
        clear hR1 hP hE1
        go_wp2_with fail
        refine (show Calls _ _ _ _ _ from KT2.out _ HE1.out).mono ?_
        rintro _ w2 ⟨v2, rfl, hR2, hE2⟩
        obtain ⟨pr2, cr2, rfl, _, hcap2⟩ := hR2.at
        have HE12 := Lib.hid hE2
        have HE2 := Lib.hid (Ext.trans HE1.out hE2)
        clear hR2 hE2
        go_wp2_with fail
        refine (show Calls _ _ _ _ _ from KP.out _ HE2.out).mono ?_
        rintro _ w3 ⟨q1, c1, rfl, hA1, hE3⟩
        dsimp only
        have HE13 := Lib.hid (Ext.trans HE12.out hE3)
        have HE3 := Lib.hid (Ext.trans HE2.out hE3)
        clear hE3 hA1
        rw [HM.out] at hcap ⊢
        have HX4 := Lib.hid (show Ext w3 ((w3.alloc (.cells #[.int .i64 0, .int .i64 0, sV [], .int .i64 0, .slice q1 0 c1] 25)).alloc (.cells #[.int .i64 at1] 3)) from ((Below.refl _ w3).alloc (Nat.le_refl _) _).alloc (by simp) _)
        have HB4 := Lib.hid (show ((w3.alloc (.cells #[.int .i64 0, .int .i64 0, sV [], .int .i64 0, .slice q1 0 c1] 25)).alloc (.cells #[.int .i64 at1] 3)).heap[w3.heap.size + 1]? = some (.cells #[.int .i64 at1] 3 (0, 0)) from by
          have := alloc_here (w3.alloc (.cells #[.int .i64 0, .int .i64 0, sV [], .int .i64 0, .slice q1 0 c1] 25)) (.cells #[.int .i64 at1] 3)
          rw [World.size_alloc] at this; exact this)
        go_wp2_with fail
        refine (HIX.out _ _ _ _ (HP.out _ (Ext.trans HE13.out HX4.out)) (cell_of HB4.out rfl)).mono ?_
        intro w5 hE5
        have HE45 := Lib.hid (Ext.trans HX4.out hE5)
        have HB5 := Lib.hid ((hE5.block _ (lt_of_block HB4.out)).trans HB4.out)
        have HE5 := Lib.hid (Ext.trans HE3.out HE45.out)
        clear hE5
        by_cases hn1 : n + 1 < m
        · obtain ⟨q, hq, hqs, hK2⟩ := HP2.out (by rw [HM.out]; exact hn1)
          have K2 := Lib.hid hK2
          obtain ⟨bb, oo, hp, _, _, _, c3⟩ := HP.out w5 (Ext.trans HE13.out HE45.out) (n + 1) (by rw [HM.out]; exact hn1)
          subst hp
          rw [hq] at c3
          clear hK2 hq
          obtain ⟨n1, hn1e⟩ : ∃ k, n + 1 = k := ⟨_, rfl⟩
          have hni : (n : Int) + 1 = (n1 : Int) := by omega
          rw [hn1e] at c3 hn1
          have hk0 : (0 : Int) ≤ (n1 : Int) := by omega
          have hkn : (n1 : Int) < (m : Int) := by omega
          have hge : decide ((m : Int) ≤ (n1 : Int)) = false := by simpa using hn1
          have hcat : sB (s.take q) ++ { data := #[10] } ++ sB tl = sB (s.take q ++ 10 :: tl) := by
            show sB (s.take q) ++ sB [10] ++ sB tl = _
            rw [sB_app, sB_app]; simp
          go_wp2_with fail
          try rw [hcat]
          refine (show Calls _ _ _ _ _ from K2.out _ HE5.out).mono ?_
          rintro _ w6 ⟨q2, c2, rfl, hA6, hE6⟩
          dsimp only
          have HX7 := Lib.hid (ext_alloc w6 (.cells #[.int .i64 0, .int .i64 0, sV [], .int .i64 0, .slice q2 0 c2] 25))
          have hb7 := alloc_here w6 (.cells #[.int .i64 0, .int .i64 0, sV [], .int .i64 0, .slice q2 0 c2] 25)
          have hb6 := (HX7.out.below.block _ (lt_of_block ((hE6.below.block _ (lt_of_block HB5.out)).trans HB5.out))).trans ((hE6.below.block _ (lt_of_block HB5.out)).trans HB5.out)
          have HE7 := Lib.hid (Ext.trans HE5.out (Ext.trans hE6 HX7.out))
          have z0 := cell_of (i := 0) hb7 rfl
          have z1 := cell_of (i := 1) hb7 rfl
          have z2 := cell_of (i := 2) hb7 rfl
          have z3 := cell_of (i := 3) hb7 rfl
          have z4 := cell_of (i := 4) hb7 rfl
          have y0 := cell_of (i := 0) hb6 rfl
          clear hb6 hb7 hE6 hA6
          go_wp2_with fail
          refine (KS.out _ _ _).mono ?_
          intro w8 hE8
          have HE8 := Lib.hid (Ext.trans HE7.out hE8)
          clear hE8 z0 z1 z2 z3 z4 y0
          go_wp2_with fail
          refine (KA.out _ HE8.out).mono ?_
          intro wz hz
          have HZ := Lib.hid (Ext.trans HE8.out hz)
          clear hz
          go_wp2
          go_ret
          exact ⟨rfl, HZ.out⟩
        · have hge : ((m : Int) ≤ (n : Int) + 1) := by omega
          go_wp2_with fail
          refine (KA.out _ HE5.out).mono ?_
          intro wz hz
          have HZ := Lib.hid (Ext.trans HE5.out hz)
          clear hz
          go_wp2
          go_ret
          exact ⟨rfl, HZ.out⟩
      · have hbad : ¬ (toksR s).2.2 = 0 ∨ ((toksR s).2.2 = 0 ∧ ¬ (toksR tl).2.2 = 0) ∨ ((toksR s).2.2 = 0 ∧ (toksR tl).2.2 = 0 ∧ ¬ (psR s r).2.2 = 3) := by
          by_cases h1 : (toksR s).2.2 = 0
          · by_cases h2 : (toksR tl).2.2 = 0
            · exact .inr (.inr ⟨h1, h2, fun h3 => hgood ⟨h1, h2, h3⟩⟩)
            · exact .inr (.inl ⟨h1, h2⟩)
          · exact .inl h1
        clear hTab hM hr hgood
        generalize (toksR s).2.2 = e1 at *
        generalize (toksR tl).2.2 = e2 at *
        generalize (toksR s).1 = l at *
        generalize (toksR s).2.1 = p0 at *
        generalize (toksR tl).1 = lt at *
        generalize (toksR tl).2.1 = p1 at *
        generalize psR s r = P1 at *
        obtain ⟨⟨k1, o1, n1, v1, es⟩, at1, e3⟩ := P1
        dsimp only [Ex.val, Ex.kind, Ex.op, Ex.name, Ex.value, Ex.args] at KP hbad
        obtain ⟨m1, hm1⟩ : ∃ m, es.length = m := ⟨_, rfl⟩
        simp only [hm1] at KP
        clear hm1
        rcases hbad with he | ⟨rfl, he⟩ | ⟨rfl, rfl, he⟩
        · have g1 : (e1 == 0) = false := by simpa using he
          have g2 : (e1 != 0) = true := by simpa using he
          clear he
          go_enter Tryz.func4, Tryz.ntmps4
          go_wp2_with fail
          refine (show Calls _ _ _ _ _ from KT1.out _ (Below.refl _ _)).mono ?_
          rintro _ w1 ⟨v, rfl, hR1, hE1⟩
          obtain ⟨pr, cr, rfl, hP, hcap⟩ := hR1.at
          have HP := Lib.hid (fun W (hW : Ext w1 W) => hP.ext hW)
          have HE1 := Lib.hid hE1
          clear hR1 hP hE1
          go_wp2_with fail
          refine (show Calls _ _ _ _ _ from KT2.out _ HE1.out).mono ?_
          rintro _ w2 ⟨v2, rfl, hR2, hE2⟩
          obtain ⟨pr2, cr2, rfl, _, hcap2⟩ := hR2.at
          have HE12 := Lib.hid hE2
          have HE2 := Lib.hid (Ext.trans HE1.out hE2)
          clear hR2 hE2
          go_wp2_with fail
          refine (show Calls _ _ _ _ _ from KP.out _ HE2.out).mono ?_
          rintro _ w3 ⟨q1, c1, rfl, hA1, hE3⟩
          dsimp only
          have HE13 := Lib.hid (Ext.trans HE12.out hE3)
          have HE3 := Lib.hid (Ext.trans HE2.out hE3)
          clear hE3 hA1
          have HE4 := Lib.hid (Ext.trans HE3.out (((Below.refl _ w3).alloc (Nat.le_refl _) (.cells #[.int .i64 k1, .int .i64 o1, sV n1, .int .i64 v1, .slice q1 m1 c1] 25)).alloc (by simp) (.cells #[.int .i64 at1] 3)))
          go_wp2_with fail
          refine (KA.out _ HE4.out).mono ?_
          intro wz hz
          have HZ := Lib.hid (Ext.trans HE4.out hz)
          clear hz
          go_wp2
          go_ret
          exact ⟨rfl, HZ.out⟩
        · have g1 : (e2 == 0) = false := by simpa using he
          have g2 : (e2 != 0) = true := by simpa using he
          clear he
          go_enter Tryz.func4, Tryz.ntmps4
          go_wp2_with fail
          refine (show Calls _ _ _ _ _ from KT1.out _ (Below.refl _ _)).mono ?_
          rintro _ w1 ⟨v, rfl, hR1, hE1⟩
          obtain ⟨pr, cr, rfl, hP, hcap⟩ := hR1.at
          have HP := Lib.hid (fun W (hW : Ext w1 W) => hP.ext hW)
          have HE1 := Lib.hid hE1
          clear hR1 hP hE1
          go_wp2_with fail
          refine (show Calls _ _ _ _ _ from KT2.out _ HE1.out).mono ?_
          rintro _ w2 ⟨v2, rfl, hR2, hE2⟩
          obtain ⟨pr2, cr2, rfl, _, hcap2⟩ := hR2.at
          have HE12 := Lib.hid hE2
          have HE2 := Lib.hid (Ext.trans HE1.out hE2)
          clear hR2 hE2
          go_wp2_with fail
          refine (show Calls _ _ _ _ _ from KP.out _ HE2.out).mono ?_
          rintro _ w3 ⟨q1, c1, rfl, hA1, hE3⟩
          dsimp only
          have HE13 := Lib.hid (Ext.trans HE12.out hE3)
          have HE3 := Lib.hid (Ext.trans HE2.out hE3)
          clear hE3 hA1
          have HE4 := Lib.hid (Ext.trans HE3.out (((Below.refl _ w3).alloc (Nat.le_refl _) (.cells #[.int .i64 k1, .int .i64 o1, sV n1, .int .i64 v1, .slice q1 m1 c1] 25)).alloc (by simp) (.cells #[.int .i64 at1] 3)))
          go_wp2_with fail
          refine (KA.out _ HE4.out).mono ?_
          intro wz hz
          have HZ := Lib.hid (Ext.trans HE4.out hz)
          clear hz
          go_wp2
          go_ret
          exact ⟨rfl, HZ.out⟩
        · have g1 : (e3 == 3) = false := by simpa using he
          have g2 : (e3 != 3) = true := by simpa using he
          clear he
          go_enter Tryz.func4, Tryz.ntmps4
          go_wp2_with fail
          refine (show Calls _ _ _ _ _ from KT1.out _ (Below.refl _ _)).mono ?_
          rintro _ w1 ⟨v, rfl, hR1, hE1⟩
          obtain ⟨pr, cr, rfl, hP, hcap⟩ := hR1.at
          have HP := Lib.hid (fun W (hW : Ext w1 W) => hP.ext hW)
          have HE1 := Lib.hid hE1
          clear hR1 hP hE1
          go_wp2_with fail
          refine (show Calls _ _ _ _ _ from KT2.out _ HE1.out).mono ?_
          rintro _ w2 ⟨v2, rfl, hR2, hE2⟩
          obtain ⟨pr2, cr2, rfl, _, hcap2⟩ := hR2.at
          have HE12 := Lib.hid hE2
          have HE2 := Lib.hid (Ext.trans HE1.out hE2)
          clear hR2 hE2
          go_wp2_with fail
          refine (show Calls _ _ _ _ _ from KP.out _ HE2.out).mono ?_
          rintro _ w3 ⟨q1, c1, rfl, hA1, hE3⟩
          dsimp only
          have HE13 := Lib.hid (Ext.trans HE12.out hE3)
          have HE3 := Lib.hid (Ext.trans HE2.out hE3)
          clear hE3 hA1
          have HE4 := Lib.hid (Ext.trans HE3.out (((Below.refl _ w3).alloc (Nat.le_refl _) (.cells #[.int .i64 k1, .int .i64 o1, sV n1, .int .i64 v1, .slice q1 m1 c1] 25)).alloc (by simp) (.cells #[.int .i64 at1] 3)))
          go_wp2_with fail
          refine (KA.out _ HE4.out).mono ?_
          intro wz hz
          have HZ := Lib.hid (Ext.trans HE4.out hz)
          clear hz
          go_wp2
          go_ret
          exact ⟨rfl, HZ.out⟩
end Go.Proofs.YtmokejjndkibhaaGreatDoor

namespace Go.Proofs.YtmokejjndkibhaaGreatDoor.lexerErrors
open Go.ChangeShapes Go.WideShapes Go.ChangeAt Go.RowKit
open Go.ChangeMaps (open_string shut_string)
set_option linter.unusedVariables false

theorem own : ownKnob Tryz.prog.godebug = none := by kernel_rfl
theorem laidOut : laidOutB Tryz.prog = true := by kernel_rfl
/-- the cells of a datum of plain values -/
def flat : Nat → DataW Unit → List Value
  | _, .lit l => [l.value]
  | n + 1, .agg ps => ps.flatMap (flat n)
  | _, _ => []
/-- a world for the witness: the settled one, the listed tables holding what the text lays -/
def lay (d : DataW Unit) : Obj → Obj
  | .cells _ t frozen => .cells (flat 4 d).toArray t frozen
  | o => o
noncomputable def laidWorld (os : Os) : World :=
  { World.holding Tryz.prog os ⟨#[], #[], []⟩ with heap := ((((World.holding Tryz.prog os ⟨#[], #[], []⟩).heap.modify 2 (lay Rows.laid_math_bits_deBruijn32tab)).modify 3 (lay Rows.laid_math_bits_deBruijn64tab)).modify 1 (lay Rows.laid_internal_strconv_uint64pow10)) }
theorem laid_met (os : Os) : laidMet Tryz.prog Rows.lexerErrorsRow.laid ((laidWorld os).forCall (fun _ _ => 0) ⟨#[], #[.string ByteArray.empty, .string ByteArray.empty], []⟩).memory :=
  laidMet_of_run' 8 (by kernel_rfl) (by kernel_rfl)
theorem reads (os : Os) {H : Type} (enc : TypeId × Value → H) : ∃ places, DataW.whole enc Tryz.prog ((laidWorld os).forCall (fun _ _ => 0) ⟨#[], #[.string ByteArray.empty, .string ByteArray.empty], []⟩).memory Tryz.f4.params.toList Rows.lexerErrorsSpec.vars false (#[.string ByteArray.empty, .string ByteArray.empty] : Array Value).toList 8 = some ([.lit (.string []), .lit (.string [])], [], places) :=
  ⟨[], by kernel_rfl⟩
theorem shape (W : World) (h : W.ShapedOpen Tryz.prog) : MaxL W := cell_of_shapedOpen_int (zero := #[.int .i64 0]) h (of_decide_eq_true (by kernel_rfl)) (by kernel_rfl) (by kernel_rfl) (by kernel_rfl) (by kernel_rfl) Tryz.underlying3

theorem tab (W : World) (h : laidMetH Tryz.prog Rows.lexerErrorsRow.laid W) : TabW W := by
  have h1 : laidMet Tryz.prog Rows.lexerErrorsRow.laid W := h
  exact Lib.tabIs_of_head (g := 1) (t := 153) (e := 131) (n := 20) (by kernel_rfl) (by kernel_rfl) Tryz.underlying153 Tryz.underlying131 (by kernel_rfl) (by kernel_rfl) h1.tail.tail
set_option maxRecDepth 100000 in
theorem contract (H : Type) (enc : TypeId × Value → H) (W : World) (base : Nat) (args : Array Value) (ds gs : List (DataW H)) (before : List MemPlace)
    (hval0 : ∀ (j : Nat) t v, Tryz.f4.params[j]? = some t → args[j]? = some v → Value.okWide Tryz.prog W .any base t v)
    (hW : DataW.Whole enc Tryz.prog Tryz.f4.params.toList Rows.lexerErrorsSpec.vars false W args.toList ds gs before) (hz : (DataW.weightsEach Tryz.prog (Tryz.f4.params.toList ++ (OpenSpec.ofChange Rows.lexerErrorsSpec).bare.plain.varTypes Tryz.prog) (ds ++ gs)).all (· ≤ reachBytes) = true) (hL : laidMetH Tryz.prog Rows.lexerErrorsRow.laid W) (hm : MaxL W) :
    Calls Tryz.prog 4 args W fun e W' => ∃ v, e = .returned v ∧ Rows.lexerErrorsSpec.post enc Tryz.prog Tryz.f4 false true false false W args v W' := by
  have hval := hval0
  have hW' := hW
  obtain ⟨p, q, hA0, hV, rfl, hfz, hnd⟩ := hW
  have hA : DataW.TrodAll enc Tryz.prog W 0 (fun _ => true) true Tryz.f4.params.toList args.toList ds p := hA0
  rw [Tryz.params4] at hA hval
  obtain ⟨v0, vs0, d0, ds0, p0, q0, hargs, rfl, rfl, h0, r0⟩ := trodAll_cons hA
  obtain ⟨v1, vs1, d1, ds1, p1, q1, rfl, rfl, rfl, h1, r1⟩ := trodAll_cons r0
  obtain ⟨rfl, rfl, rfl⟩ := trodAll_nil r1
  obtain rfl : args = #[v0, v1] := by cases args; simp_all
  obtain ⟨rfl, rfl⟩ := trodVars_none hV
  obtain ⟨a0, rfl, rfl, rfl, w0⟩ := open_string Tryz.underlying9 (hval 0 9 v0 rfl rfl) h0
  obtain ⟨a1, rfl, rfl, rfl, w1⟩ := open_string Tryz.underlying9 (hval 1 9 v1 rfl rfl) h1
  have s0 : a0.size ≤ 140737488351232 := by rw [Lib.size_eq]; exact sized_string hz (j := 0) rfl rfl
  have s1 : a1.size ≤ 140737488351232 := by rw [Lib.size_eq]; exact sized_string hz (j := 1) rfl rfl
  clear hA0 hval0 hz
  simp only [List.append_nil] at hW'
  refine (lexerErrors_walk a0 a1 W s0 s1 (tab W hL) hm).mono fun W' bel => ?_
  exact ⟨_, rfl, _, _, _, [], [], [], hW', trodAll_mk1 (shut_bool Tryz.underlying4 _), (trodAll_cons_mk (shut_string Tryz.underlying9 w0) (trodAll_cons_mk (shut_string Tryz.underlying9 w1) trodAll_mk0)), rfl, bel.frame _, fun h => by cases h⟩

set_option maxRecDepth 100000 in
theorem lifted (os : Os) (started : os.Started) (H : Type) (enc : TypeId × Value → H) (F : Stop.Interp) :
    ReturnsInHanded {} Tryz.checked os 4 .any ((OpenSpec.ofChange Rows.lexerErrorsSpec).preRow enc Tryz.prog Tryz.f4 Rows.lexerErrorsRow.domain false Rows.lexerErrorsRow.laid) (((OpenSpec.ofChange Rows.lexerErrorsSpec).at F).post enc Tryz.prog Tryz.f4 false true false false) := by
  obtain ⟨places, hx⟩ := reads os enc
  refine returnsInHanded_of_row (C := Tryz.checked) (s := OpenSpec.ofChange Rows.lexerErrorsSpec) own started (by kernel_rfl) Tryz.func4
    (witness_row_at (enc := enc) (C := Tryz.checked) false (laidWorld os) #[.string ByteArray.empty, .string ByteArray.empty] rfl (by kernel_rfl) (by kernel_rfl) (by kernel_rfl)
      (OpenSpec.preRow_of_cond 8 hx (by kernel_rfl) (fun k hk => by cases hk) (by kernel_rfl) (laid_met os))) ?_
  intro W base args ds gs before hval hW _ _ hz hL hsh _
  exact contract H enc W base args ds gs before hval hW hz hL (shape W hsh)

theorem said : Rows.LexerErrorsSaid :=
  OpenClaim.holds_of_cond 4 Tryz.f4 rfl rfl rfl rfl rfl rfl rfl ⟨rfl, rfl, rfl, rfl, rfl⟩ rfl rfl rfl rfl rfl (by kernel_rfl) Tryz.func4 (by kernel_rfl)
    (of_decide_eq_true (by kernel_rfl)) (by unfold Func.isWrapper; first | (rw [if_pos (by decide +kernel)]; kernel_rfl) | (rw [if_neg (by decide +kernel)]; exact ⟨rfl, rfl⟩))
    (fun os started H enc _ F => by rw [OpenClaim.pre_eq_preRow]; exact lifted os started H enc F)

theorem plain (f : FuncId) (fn : Func) (hf : Tryz.pinned.checked.prog.funcNamed "nursery/nurserylaw10.LexerErrors" = some f) (hfn : Tryz.pinned.checked.prog.funcs[f]? = some fn) :
    true = Tryz.pinned.checked.prog.looks [] ∧ ∀ (j : Nat) t, fn.params[j]? = some t → Tryz.pinned.checked.prog.wantsStandIn t = false := by
  obtain rfl : f = 4 := Option.some.inj ((show Tryz.prog.funcNamed "nursery/nurserylaw10.LexerErrors" = some 4 by kernel_rfl).symm.trans hf) |>.symm
  obtain rfl : fn = Tryz.f4 := (Option.some.inj (Tryz.func4.symm.trans hfn)).symm
  refine ⟨by kernel_rfl, fun j t ht => ?_⟩
  rw [Tryz.params4] at ht
  rcases j with _ | _ | j
  · obtain rfl : t = 9 := by simpa using ht.symm
    exact (show Tryz.prog.wantsStandIn 9 = false by kernel_rfl)
  · obtain rfl : t = 9 := by simpa using ht.symm
    exact (show Tryz.prog.wantsStandIn 9 = false by kernel_rfl)
  · simp at ht

/-- the statement -/
theorem proved : Rows.LexerErrorsCardSaid :=
  Claim7.holds_tied_plain_at .later [] _ _ _ _ said (fun _ h => by cases h) (by kernel_rfl) (fun _ h => by cases h) lexerErrors_row_tie rfl ⟨rfl, rfl⟩ (by kernel_rfl) rfl plain (by kernel_rfl)
#print axioms proved
end Go.Proofs.YtmokejjndkibhaaGreatDoor.lexerErrors

