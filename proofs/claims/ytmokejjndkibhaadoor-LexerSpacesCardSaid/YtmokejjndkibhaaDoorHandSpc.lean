/- The statement LexerSpacesCardSaid: for every input the law returns true, and the arguments read as before; the tables of the library that it lists are tied to the text. The frame round the walk of the law. (With it: LexerErrors, plain: tokens and reading of a text that was cut at a token.; LexerSpaces, plain: tokens with separators behind them.; LexerSpaces: slices.EqualFunc with the law's closure.; LexerSpaces: what is between tokens does not matter.) -/
import Derived.Stop.LaidErr
import Derived.Test.YtmokejjndkibhaaDoorCards
import Derived.Test.YtmokejjndkibhaaDoorTie
import Derived.WalkKit
import Derived.ProofKit
import Derived.OpenShut
import Derived.ShutString
import Derived.ChangeOld
import Derived.Below
import Derived.Deep.DeepHandedRow
import Derived.Lib.LaidTab
import Derived.Shelf.Vars
import Derived.Test.YtmokejjndkibhaaDoorPart10

namespace Go.Proofs.YtmokejjndkibhaaDoor
open Go.RowKit Ex
set_option linter.unusedVariables false
set_option linter.unusedSimpArgs false

theorem cntW_take (q : UInt8 → Bool) : ∀ (x : List UInt8) (m : Nat), cntW q (x.take m) = min (cntW q x) m
  | [], m => by simp [cntW]
  | c :: x, 0 => by simp [cntW]
  | c :: x, m + 1 => by
    rw [List.take_succ_cons, cntW_cons, cntW_cons, cntW_take q x m]
    split <;> omega
theorem skipB_take : ∀ (com : Bool) (x : List UInt8) (m : Nat), skipB com (x.take m) = min (skipB com x) m
  | com, [], m => by simp [skipB]
  | com, c :: x, 0 => by simp [skipB]
  | com, c :: x, m + 1 => by
    have h1 := skipB_take true x m
    have h2 := skipB_take false x m
    rw [List.take_succ_cons]
    simp only [skipB, h1, h2]
    split
    · omega
    · split
      · omega
      · split
        · omega
        · split <;> omega
theorem pre_take {z x : List UInt8} {m : Nat} (hm : z.length ≤ m) : z.isPrefixOf (x.take m) = z.isPrefixOf x := by
  rw [Bool.eq_iff_iff, List.isPrefixOf_iff_prefix, List.isPrefixOf_iff_prefix]
  constructor
  · exact fun h => h.trans (List.take_prefix _ _)
  · intro h
    rw [List.prefix_take_iff]
    exact ⟨h, hm⟩
theorem sg2_two : ∀ z ∈ sg2, z.length = 2 := by decide
theorem sgLen_take {x : List UInt8} {m : Nat} (h1 : 1 ≤ m) (hm : sgLen x ≤ m) : sgLen (x.take m) = sgLen x := by
  by_cases h2 : 2 ≤ m
  · have e : ∀ l : List (List UInt8), (∀ z ∈ l, z ∈ sg2) → (l.any fun z => z.isPrefixOf (x.take m)) = l.any fun z => z.isPrefixOf x := by
      intro l
      induction l with
      | nil => intro _; rfl
      | cons z l ih =>
        intro hz
        rw [List.any_cons, List.any_cons, ih (fun z' h' => hz z' (List.mem_cons_of_mem _ h')), pre_take (by rw [sg2_two z (hz z (List.mem_cons_self ..))]; exact h2)]
    unfold sgLen
    rw [e sg2 (fun _ h => h)]
    obtain ⟨m, rfl⟩ : ∃ n, m = n + 1 := ⟨m - 1, by omega⟩
    cases x with
    | nil => rfl
    | cons c x => rfl
  · obtain rfl : m = 1 := by omega
    have hn : (sg2.any fun z => z.isPrefixOf x) = false := by
      cases hb : (sg2.any fun z => z.isPrefixOf x) with
      | false => rfl
      | true => unfold sgLen at hm; rw [if_pos hb] at hm; omega
    have hn2 : (sg2.any fun z => z.isPrefixOf (x.take 1)) = false := by
      cases hb : (sg2.any fun z => z.isPrefixOf (x.take 1)) with
      | false => rfl
      | true =>
        obtain ⟨z, hz, hp⟩ := List.any_eq_true.1 hb
        have h3 := (List.isPrefixOf_iff_prefix.1 hp).length_le
        rw [sg2_two z hz, List.length_take] at h3
        omega
    unfold sgLen
    rw [hn, hn2]
    cases x with
    | nil => rfl
    | cons c x => rfl
theorem oneT_take {x : List UInt8} {m : Nat} {t : Tk} {p : Int} (hx : x ≠ []) (h : oneT x p = (t, 0)) (hm : t.text.length ≤ m) : oneT (x.take m) p = (t, 0) := by
  have h1 := (oneT_text hx (p := p) (by rw [h])).1
  rw [h] at h1
  dsimp only at h1
  cases x with
  | nil => exact absurd rfl hx
  | cons c x =>
    obtain ⟨m, rfl⟩ : ∃ n, m = n + 1 := ⟨m - 1, by omega⟩
    have e1 := cntW_take insC (c :: x) (m + 1)
    have e2 := cntW_take digB (c :: x) (m + 1)
    have e3 := fun hs => sgLen_take (x := c :: x) (m := m + 1) (by omega) hs
    have l1 := cntW_le insC (c :: x)
    have l2 := cntW_le digB (c :: x)
    have l3 := sgLen_le (c :: x)
    have t1 : ∀ n, n ≤ m + 1 → ((c :: x).take (m + 1)).take n = (c :: x).take n := fun n hn => by rw [List.take_take, Nat.min_eq_left hn]
    have g5 : ∀ n : Nat, ((c :: x).take (m + 1))[n]? = if n < m + 1 then (c :: x)[n]? else none := fun n => List.getElem?_take
    rw [List.take_succ_cons] at e1 e2 e3 t1 g5 ⊢
    unfold oneT at h ⊢
    dsimp only at h ⊢
    split at h
    · rename_i g1
      rw [if_pos g1]
      split at h
      · simp at h
      · rename_i g2
        simp only [Prod.mk.injEq, and_true] at h
        subst h
        dsimp only at hm
        rw [List.length_take, Nat.min_eq_left l1] at hm
        rw [e1, Nat.min_eq_left hm, if_neg g2, t1 _ hm]
    · rename_i g1
      rw [if_neg g1]
      split at h
      · rename_i g2
        rw [if_pos g2]
        split at h
        · simp at h
        · rename_i g3
          split at h
          · simp at h
          · rename_i g4
            simp only [Prod.mk.injEq, and_true] at h
            subst h
            dsimp only at hm
            rw [List.length_take, Nat.min_eq_left l2] at hm
            rw [e2, Nat.min_eq_left hm, t1 _ hm, if_neg ?_, if_neg g4]
            intro hc
            refine g3 (hc.imp_right fun ha => ?_)
            rw [g5] at ha
            split at ha
            · exact ha
            · simp at ha
      · rename_i g2
        rw [if_neg g2]
        split at h
        · simp at h
        · rename_i g3
          simp only [Prod.mk.injEq, and_true] at h
          subst h
          dsimp only at hm
          rw [List.length_take, Nat.min_eq_left l3] at hm
          rw [e3 hm, if_neg g3, t1 _ hm]
/-- where tokens stand -/
theorem Toks.pos_ge {s : List UInt8} {a : Nat} {l : List Tk} {p e : Int} (h : Toks s a l p e) : e = 0 → a ≤ s.length → ∀ t ∈ l, ∃ q : Nat, t.pos = (q : Int) ∧ a ≤ q ∧ q ≤ s.length := by
  induction h with
  | fin h =>
    intro _ ha t ht
    obtain rfl := List.mem_singleton.1 ht
    exact ⟨s.length, rfl, ha, Nat.le_refl _⟩
  | bad h ht h0 => intro he; exact absurd he h0
  | cons h ht h1 ih =>
    rename_i a t l
    intro _ ha x hx
    obtain ⟨g1, g2, g3, g4, g5⟩ := oneT_at h ht
    have hab : a ≤ blk s a := by unfold blk; omega
    rcases List.mem_cons.1 hx with rfl | hx
    · exact ⟨blk s a, g4, hab, by omega⟩
    · obtain ⟨q, h2, h3, h4⟩ := ih rfl g2 x hx
      exact ⟨q, h2, by omega, h4⟩
  | later h ht h0 h1 ih => intro he; exact absurd he h0
theorem Toks.asc {s : List UInt8} {a : Nat} {l : List Tk} {p e : Int} (h : Toks s a l p e) : e = 0 → a ≤ s.length → l.Pairwise (fun x y => x.pos < y.pos) := by
  induction h with
  | fin h => intro _ _; exact List.pairwise_singleton _ _
  | bad h ht h0 => intro he; exact absurd he h0
  | cons h ht h1 ih =>
    intro _ ha
    obtain ⟨g1, g2, g3, g4, g5⟩ := oneT_at h ht
    refine List.Pairwise.cons (fun y hy => ?_) (ih rfl g2)
    obtain ⟨q, h2, h3, h4⟩ := h1.pos_ge rfl g2 y hy
    rw [g4, h2]; omega
  | later h ht h0 h1 ih => intro he; exact absurd he h0
/-- the tokens before a token, other text behind them -/
theorem Toks.upto {s : List UInt8} (y : List UInt8) {a : Nat} {l : List Tk} {p e : Int} (h : Toks s a l p e) : e = 0 → a ≤ s.length → ∀ (k : Nat) (hk : k < l.length) (q : Nat), (l[k]).pos = (q : Int) → ∀ {l' : List Tk}, Toks (s.take q ++ 10 :: y) (q + 1) l' 0 0 → Toks (s.take q ++ 10 :: y) a (l.take k ++ l') 0 0 := by
  have hdrop : ∀ q b : Nat, q ≤ s.length → b ≤ q → (s.take q ++ 10 :: y).drop b = (s.drop b).take (q - b) ++ 10 :: y := fun q b hq hb => by
    rw [List.drop_append_of_le_length (by rw [List.length_take]; omega), List.drop_take]
  have hdrop2 : ∀ q : Nat, q ≤ s.length → (s.take q ++ 10 :: y).drop (q + 1) = y := fun q hq => by
    have e : s.take q ++ 10 :: y = (s.take q ++ [10]) ++ y := by simp
    rw [e, List.drop_append, List.drop_eq_nil_of_le (by simp; omega), List.nil_append]
    have e0 : q + 1 - (s.take q ++ [10]).length = 0 := by rw [List.length_append, List.length_take]; simp; omega
    rw [e0]; rfl
  have hblk : ∀ q a : Nat, q ≤ s.length → a ≤ q → blk (s.take q ++ 10 :: y) a = if blk s a < q then blk s a else blk (s.take q ++ 10 :: y) (q + 1) := fun q a hq ha => by
    unfold blk
    rw [hdrop q a hq ha, hdrop2 q hq, skipB_app, skipB_take, List.length_take, List.length_drop]
    split
    · rename_i h1; rw [if_pos (by omega)]; omega
    · rename_i h1; rw [if_neg (by omega)]; omega
  induction h with
  | fin h =>
    rename_i a
    intro _ ha k hk q hq l' hl'
    obtain rfl : k = 0 := by simpa using hk
    have hq' : q = s.length := by simp only [List.getElem_cons_zero] at hq; omega
    subst hq'
    have hb := hblk s.length a (Nat.le_refl _) ha
    rw [if_neg (by omega)] at hb
    simp only [List.take_zero, List.nil_append]
    exact hl'.of_blk hb
  | bad h ht h0 => intro he; exact absurd he h0
  | cons h ht h1 ih =>
    rename_i a t l
    intro _ ha k hk q hq l' hl'
    obtain ⟨g1, g2, g3, g4, g5⟩ := oneT_at h ht
    have hab : a ≤ blk s a := by unfold blk; omega
    cases k with
    | zero =>
      have hq' : q = blk s a := by simp only [List.getElem_cons_zero] at hq; rw [g4] at hq; omega
      have hb := hblk q a (by omega) (by omega)
      rw [if_neg (by omega)] at hb
      simp only [List.take_zero, List.nil_append]
      exact hl'.of_blk hb
    | succ k =>
      have hk' : k < l.length := by simpa using hk
      have hq2 : (l[k]).pos = (q : Int) := by simpa using hq
      obtain ⟨q', h2, h3, h4⟩ := h1.pos_ge rfl g2 l[k] (List.getElem_mem _)
      have hqq : q' = q := by rw [hq2] at h2; omega
      subst hqq
      have hb := hblk q' a h4 (by omega)
      rw [if_pos (by omega)] at hb
      have hne : s.drop (blk s a) ≠ [] := by intro e; have := congrArg List.length e; simp at this; omega
      have hne2 : (s.drop (blk s a)).take (q' - blk s a) ≠ [] := by intro e; have := congrArg List.length e; simp at this; omega
      have h5 : oneT ((s.take q' ++ 10 :: y).drop (blk (s.take q' ++ 10 :: y) a)) ((blk (s.take q' ++ 10 :: y) a : Nat) : Int) = (t, 0) := by
        rw [hb, hdrop q' _ h4 (by omega), oneT_app hne2 (.inl rfl), oneT_take hne ht (by omega)]
      rw [List.take_succ_cons, List.cons_append]
      refine .cons (by rw [hb]; simp; omega) h5 ?_
      rw [hb]
      exact ih rfl g2 k hk' q' hq2 hl'
  | later h ht h0 h1 ih => intro he; exact absurd he h0
/-- tokens behind other text -/
theorem Toks.shift {y : List UInt8} (pre : List UInt8) {a : Nat} {l : List Tk} {p e : Int} (h : Toks y a l p e) : e = 0 → a ≤ y.length → Toks (pre ++ y) (pre.length + a) (l.map (shT pre.length)) 0 0 := by
  have hdrop : ∀ k, (pre ++ y).drop (pre.length + k) = y.drop k := fun k => by
    rw [List.drop_append, List.drop_eq_nil_of_le (by omega), List.nil_append, show pre.length + k - pre.length = k by omega]
  have hblk : ∀ a, blk (pre ++ y) (pre.length + a) = pre.length + blk y a := fun a => by
    unfold blk; rw [hdrop]; omega
  induction h with
  | fin h =>
    intro _ ha
    have := Toks.fin (s := pre ++ y) (a := pre.length + _) (by rw [hblk]; simp; exact h)
    simp only [List.map_cons, List.map_nil, shT]
    rw [show ((y.length : Int) + (pre.length : Nat)) = (((pre ++ y).length : Nat) : Int) by simp; omega]
    exact this
  | bad h ht h0 => intro he; exact absurd he h0
  | cons h ht h1 ih =>
    rename_i a t l
    intro _ ha
    obtain ⟨g1, g2, g3, g4, g5⟩ := oneT_at h ht
    have hne : y.drop (blk y a) ≠ [] := by intro e; have := congrArg List.length e; simp at this; omega
    have h5 : oneT ((pre ++ y).drop (blk (pre ++ y) (pre.length + a))) ((blk (pre ++ y) (pre.length + a) : Nat) : Int) = (shT pre.length t, 0) := by
      rw [hblk, hdrop, oneT_pos ht hne]
      simp only [shT, Prod.mk.injEq, and_true]
      rw [g4]
      obtain ⟨t1, t2, t3, t4⟩ := t
      simp; omega
    simp only [List.map_cons]
    refine .cons (by rw [hblk]; simp; omega) h5 ?_
    rw [hblk, show pre.length + blk y a + (shT pre.length t).text.length = pre.length + (blk y a + t.text.length) by show pre.length + blk y a + t.text.length = _; omega]
    exact ih rfl g2
  | later h ht h0 h1 ih => intro he; exact absurd he h0
/-- what reads badly reads badly elsewhere, if the tokens up to that place are the same -/
theorem Rd.bad_emb {l l' : List Tk} {m : Nat} (h : Emb l l' 0 (m + 1)) {md : Md} {k : Nat} {r : Res} (hr : Rd l md k r) : ∀ {j : Nat}, r = .bad j → 1 ≤ md.lvl → k ≤ l.length → j ≤ m → Rd l' md k (.bad j) := by
  have hml : m < l.length := (h m (by omega)).1
  have sg : ∀ k x, k ≤ m → sgB l' k x = sgB l k x := fun k x hk => by have := h.sg (k := k) (by omega) x; rwa [Nat.zero_add] at this
  have op : ∀ k, k ≤ m → opAt l' k = opAt l k := fun k hk => by have := h.op (k := k) (by omega); rwa [Nat.zero_add] at this
  have ok : ∀ {md k e j}, Rd l md k (.ok e j) → 1 ≤ md.lvl → k ≤ l.length → j ≤ m → Rd l' md k (.ok e j) := fun {md k e j} hr h1 h2 h3 => by
    have h4 : Emb l l' 0 m := fun i hi => h i (by omega)
    have := Rd.emb h4 (by rw [Nat.zero_add]; exact op m (Nat.le_refl _)) hr rfl h1 h2 h3
    rwa [Nat.zero_add, Nat.zero_add] at this
  induction hr with
  | num => intro j hr; cases hr
  | nam => intro j hr; cases hr
  | neg => intro j hr; cases hr
  | negB h0 h1 ih =>
    intro j hr hl hk hj; cases hr
    obtain ⟨hs, _⟩ := sgB_some h0
    have hb := h1.bound (by decide) (by omega)
    simp only [Res.end_] at hb
    exact .negB (by rw [sg _ _ (by omega)]; exact h0) (ih rfl (by decide) (by omega) hj)
  | no => intro j hr; cases hr
  | noB h0 h1 ih =>
    intro j hr hl hk hj; cases hr
    obtain ⟨hs, _⟩ := sgB_some h0
    have hb := h1.bound (by decide) (by omega)
    simp only [Res.end_] at hb
    exact .noB (by rw [sg _ _ (by omega)]; exact h0) (ih rfl (by decide) (by omega) hj)
  | par => intro j hr; cases hr
  | parN h0 h1 h2 ih =>
    intro j hr hl hk hj; cases hr
    obtain ⟨hs, _⟩ := sgB_some h0
    have hb := h1.bound (by decide) (by omega)
    simp only [Res.end_] at hb
    exact .parN (by rw [sg _ _ (by omega)]; exact h0) (ok h1 (by decide) (by omega) hj) (by rw [sg _ _ hj]; exact h2)
  | parB h0 h1 ih =>
    intro j hr hl hk hj; cases hr
    obtain ⟨hs, _⟩ := sgB_some h0
    have hb := h1.bound (by decide) (by omega)
    simp only [Res.end_] at hb
    exact .parB (by rw [sg _ _ (by omega)]; exact h0) (ih rfl (by decide) (by omega) hj)
  | out h0 => intro j hr hl hk hj; cases hr; omega
  | bad h0 h1 h2 h3 h4 h5 =>
    rename_i k1
    intro j hr hl hk hj; cases hr
    obtain ⟨g1, g2, g3⟩ := h k1 (by omega)
    have g2' : k1 < l'.length := by omega
    have g3' : SameK l[k1] l'[k1] := by
      have e : l'[0 + k1]'g2 = l'[k1] := by simp only [Nat.zero_add]
      rw [e] at g3; exact g3
    exact .bad g2' (fun e => by rw [← g3'.num]; exact h1 (by rw [g3'.1]; exact e)) (fun e => by rw [← g3'.nam]; exact h2 (by rw [g3'.1]; exact e)) (by rw [sg _ _ hj]; exact h3) (by rw [sg _ _ hj]; exact h4) (by rw [sg _ _ hj]; exact h5)
  | six hp h0 ih => intro j hr hl hk hj; exact .six hp (ih hr (by decide) hk hj)
  | binB hp h0 ih => intro j hr hl hk hj; exact .binB hp (ih hr (by simp only [Md.lvl] at *; omega) hk hj)
  | bin hp h0 h1 ih ih1 =>
    intro j hr hl hk hj
    subst hr
    have hb := h0.bound (by simp only [Md.lvl] at *; omega) hk
    simp only [Res.end_] at hb
    have hb1 := h1.bound (by simpa only [Md.lvl] using hl) hb.2.1
    simp only [Res.end_] at hb1
    exact .bin hp (ok h0 (by simp only [Md.lvl] at *; omega) hk (by omega)) (ih1 rfl (by simpa only [Md.lvl] using hl) hb.2.1 hj)
  | fin => intro j hr; cases hr
  | argB h0 h1 ih =>
    intro j hr hl hk hj; cases hr
    have hlt := opAt_lt h0 (by simpa only [Md.lvl] using hl)
    have hb := h1.bound (by simp only [Md.lvl] at *; omega) (by omega)
    simp only [Res.end_] at hb
    exact .argB (by rw [op _ (by omega)]; exact h0) (ih rfl (by simp only [Md.lvl] at *; omega) (by omega) hj)
  | three => intro j hr; cases hr
  | more hp h0 h1 h2 ih ih2 =>
    intro j hr hl hk hj
    subst hr
    have hlt := opAt_lt h0 (by simpa only [Md.lvl] using hl)
    have hb := h1.bound (by simp only [Md.lvl] at *; omega) (by omega)
    simp only [Res.end_] at hb
    have hb1 := h2.bound (by simpa only [Md.lvl] using hl) hb.2.1
    simp only [Res.end_] at hb1
    have := ih2 rfl (by simpa only [Md.lvl] using hl) hb.2.1 hj
    rw [← op _ (by omega)] at this
    exact .more hp (by rw [op _ (by omega)]; exact h0) (ok h1 (by simp only [Md.lvl] at *; omega) (by omega) (by omega)) this
end Go.Proofs.YtmokejjndkibhaaDoor

namespace Go.Proofs.YtmokejjndkibhaaDoor
open Go.RowKit Ex
set_option linter.unusedVariables false
set_option linter.unusedSimpArgs false

def spK : List (List UInt8) := [[32], [10], [9, 32], [35, 32, 97, 32, 43, 32, 49, 10], [10, 10]]
def SepOk (x : List UInt8) : Prop := (∃ c r, x = c :: r ∧ sepC c) ∧ ∀ y, skipB false (x ++ y) = x.length + skipB false y
theorem sepOk_spK : ∀ k (h : k < 5), SepOk (spK[k]'h)
  | 0, _ => ⟨⟨32, [], rfl, by unfold sepC; decide⟩, fun y => by simp [spK, skipB]⟩
  | 1, _ => ⟨⟨10, [], rfl, by unfold sepC; decide⟩, fun y => by simp [spK, skipB]⟩
  | 2, _ => ⟨⟨9, [32], rfl, by unfold sepC; decide⟩, fun y => by simp [spK, skipB]; omega⟩
  | 3, _ => ⟨⟨35, [32, 97, 32, 43, 32, 49, 10], rfl, by unfold sepC; decide⟩, fun y => by simp [spK, skipB]; omega⟩
  | 4, _ => ⟨⟨10, [10], rfl, by unfold sepC; decide⟩, fun y => by simp [spK, skipB]; omega⟩
  | k + 5, h => by omega
theorem spK_len : ∀ k (h : k < 5), (spK[k]'h).length ≤ 8
  | 0, _ => by simp [spK]
  | 1, _ => by simp [spK]
  | 2, _ => by simp [spK]
  | 3, _ => by simp [spK]
  | 4, _ => by simp [spK]
  | k + 5, h => by omega
def outS (f : Nat → List UInt8) : Nat → List Tk → List UInt8
  | _, [] => []
  | i, t :: l => t.text ++ (f i ++ outS f (i + 1) l)
theorem outS_snoc (f : Nat → List UInt8) (t : Tk) : ∀ (l : List Tk) (i : Nat), outS f i (l ++ [t]) = outS f i l ++ (t.text ++ f (i + l.length))
  | [], i => by simp [outS]
  | u :: l, i => by
    rw [List.cons_append, outS, outS_snoc f t l (i + 1), outS, List.length_cons]
    rw [show i + 1 + l.length = i + (l.length + 1) by omega]
    simp
theorem outS_take (f : Nat → List UInt8) (l : List Tk) (j : Nat) (h : j < l.length) : outS f 0 (l.take (j + 1)) = outS f 0 (l.take j) ++ l[j].text ++ f j := by
  rw [List.take_succ_eq_append_getElem h, outS_snoc, List.length_take, Nat.min_eq_left (by omega), Nat.zero_add, List.append_assoc]
theorem skipB_drop : ∀ (com : Bool) (l : List UInt8), skipB false (l.drop (skipB com l)) = 0
  | com, [] => by simp [skipB]
  | com, c :: l => by
    have h1 := skipB_drop true l
    have h2 := skipB_drop false l
    have e : ∀ n, (c :: l).drop (1 + n) = l.drop n := fun n => by rw [Nat.add_comm, List.drop_succ_cons]
    by_cases c1 : c.toNat = 10
    · have : skipB com (c :: l) = 1 + skipB false l := by simp [skipB, c1]
      rw [this, e]; exact h2
    · cases com with
      | true =>
        have : skipB true (c :: l) = 1 + skipB true l := by simp [skipB, c1]
        rw [this, e]; exact h1
      | false =>
        by_cases c2 : c.toNat = 35
        · have : skipB false (c :: l) = 1 + skipB true l := by simp [skipB, c2]
          rw [this, e]; exact h1
        · by_cases c3 : c.toNat = 32 ∨ c.toNat = 9
          · have : skipB false (c :: l) = 1 + skipB false l := by simp only [skipB]; rw [if_neg c1, if_neg (by decide), if_neg c2, if_pos c3]
            rw [this, e]; exact h2
          · have h0 : skipB false (c :: l) = 0 := by simp only [skipB]; rw [if_neg c1, if_neg (by decide), if_neg c2, if_neg c3]
            rw [h0, List.drop_zero, h0]
theorem skipB_head {c : UInt8} {x y : List UInt8} (h : skipB false (c :: x) = 0) : skipB false (c :: y) = 0 := by
  by_cases c1 : c.toNat = 10
  · simp [skipB, c1] at h
  · by_cases c2 : c.toNat = 35
    · simp [skipB, c2] at h
    · by_cases c3 : c.toNat = 32 ∨ c.toNat = 9
      · have : skipB false (c :: x) = 1 + skipB false x := by simp only [skipB]; rw [if_neg c1, if_neg (by decide), if_neg c2, if_pos c3]
        omega
      · simp only [skipB]; rw [if_neg c1, if_neg (by decide), if_neg c2, if_neg c3]
theorem sp_toks {s : List UInt8} {f : Nat → List UInt8} (hf : ∀ i, SepOk (f i)) {a : Nat} {l : List Tk} {p e : Int} (h : Toks s a l p e) : e = 0 → ∀ (i : Nat) (pre : List UInt8), ∃ l', Toks (pre ++ outS f i l) pre.length l' 0 0 ∧ l'.map stT = l.map stT := by
  induction h with
  | fin h =>
    intro _ i pre
    have hb : blk (pre ++ outS f i [⟨0, [], 0, (s.length : Int)⟩]) pre.length = (pre ++ outS f i [⟨0, [], 0, (s.length : Int)⟩]).length := by
      unfold blk
      rw [List.drop_left]
      have := (hf i).2 []
      rw [List.append_nil] at this
      simp only [outS, List.append_nil, List.nil_append]
      rw [this, List.length_append]
      simp [skipB]
    exact ⟨_, .fin (by rw [hb]; exact Nat.le_refl _), by simp [stT]⟩
  | bad h ht h0 => intro he; exact absurd he h0
  | cons h ht h1 ih =>
    rename_i a t l
    intro _ i pre
    obtain ⟨g1, g2, g3, g4, g5⟩ := oneT_at h ht
    obtain ⟨l', h2, h3⟩ := ih rfl (i + 1) (pre ++ (t.text ++ f i))
    have hX : pre ++ outS f i (t :: l) = pre ++ (t.text ++ f i) ++ outS f (i + 1) l := by simp [outS]
    have hne : s.drop (blk s a) ≠ [] := by intro e; have := congrArg List.length e; simp at this; omega
    obtain ⟨c0, r0, hf0, hc0⟩ := (hf i).1
    have hd1 : (pre ++ outS f i (t :: l)).drop pre.length = t.text ++ (f i ++ outS f (i + 1) l) := by rw [List.drop_left]; rfl
    have hd2 : (pre ++ outS f i (t :: l)).drop (pre.length + t.text.length) = f i ++ outS f (i + 1) l := by
      rw [← List.drop_drop, hd1, List.drop_left]
    have hd3 : (pre ++ outS f i (t :: l)).drop (pre ++ (t.text ++ f i)).length = outS f (i + 1) l := by rw [hX, List.drop_left]
    have hone : oneT t.text ((blk s a : Nat) : Int) = (t, 0) := by
      have := oneT_take (m := t.text.length) hne ht (Nat.le_refl _)
      rwa [← g3] at this
    have htn : t.text ≠ [] := by intro e; rw [e] at g1; simp at g1
    have hb0 : blk (pre ++ outS f i (t :: l)) pre.length = pre.length := by
      unfold blk
      rw [hd1]
      have hs0 : skipB false (s.drop (blk s a)) = 0 := by
        have := skipB_drop false (s.drop a)
        rw [List.drop_drop] at this
        exact this
      cases hx : s.drop (blk s a) with
      | nil => exact absurd hx hne
      | cons c x =>
        rw [hx] at hs0 g3
        obtain ⟨m, hm⟩ : ∃ m, t.text.length = m + 1 := ⟨t.text.length - 1, by omega⟩
        rw [hm, List.take_succ_cons] at g3
        rw [g3, List.cons_append, skipB_head hs0]; rfl
    have h5 : oneT ((pre ++ outS f i (t :: l)).drop (blk (pre ++ outS f i (t :: l)) pre.length)) ((blk (pre ++ outS f i (t :: l)) pre.length : Nat) : Int) = ({ t with pos := ((pre.length : Nat) : Int) }, 0) := by
      rw [hb0, hd1, hf0, List.cons_append, oneT_app htn hc0, oneT_pos hone htn]
    have hb2 : blk (pre ++ outS f i (t :: l)) (pre.length + t.text.length) = blk (pre ++ outS f i (t :: l)) (pre ++ (t.text ++ f i)).length := by
      unfold blk
      rw [hd2, hd3, (hf i).2]
      simp only [List.length_append]; omega
    rw [← hX] at h2
    refine ⟨{ t with pos := ((pre.length : Nat) : Int) } :: l', .cons ?_ h5 ?_, by rw [List.map_cons, List.map_cons, h3]; rfl⟩
    · rw [hb0, List.length_append]
      have : 1 ≤ (outS f i (t :: l)).length := by simp only [outS, List.length_append]; omega
      omega
    · rw [hb0]
      exact h2.of_blk hb2
  | later h ht h0 h1 ih => intro he; exact absurd he h0
theorem sp_law {s : List UInt8} (hs : s.length ≤ 4000) (he : (toksR s).2.2 = 0) {f : Nat → List UInt8} (hf : ∀ i, SepOk (f i)) (hl : (outS f 0 (toksR s).1).length ≤ 4000) :
    ∃ l', toksR (outS f 0 (toksR s).1) = (l', 0, 0) ∧ l'.map stT = (toksR s).1.map stT := by
  have h := toksR_toks s hs
  rw [he] at h
  obtain ⟨l', h1, h2⟩ := sp_toks hf h rfl 0 []
  exact ⟨l', Toks.toksR hl h1, h2⟩
end Go.Proofs.YtmokejjndkibhaaDoor

namespace Go.Proofs.YtmokejjndkibhaaDoor
open Go.RowKit Go.Shelf Ex
set_option linter.unusedVariables false
set_option linter.unusedSimpArgs false

set_option maxRecDepth 100000 in
set_option maxHeartbeats 2000000 in
theorem spClos_any (k : Int) (t : List UInt8) (v p q : Int) (w : World) :
    Gives Tryd.prog 19 #[.agg #[.int .i64 k, sV t, .int .i64 v, .int .i64 p], .agg #[.int .i64 k, sV t, .int .i64 v, .int .i64 q]] w (.bool true) := by
  unfold Gives
  have HX := Lib.hid (show Ext w ((w.alloc (.cells #[.int .i64 k, sV t, .int .i64 v, .int .i64 p] 49)).alloc (.cells #[.int .i64 k, sV t, .int .i64 v, .int .i64 q] 49)) from ((Below.refl _ w).alloc (Nat.le_refl _) _).alloc (by simp) _)
  have hb2 : ((w.alloc (.cells #[.int .i64 k, sV t, .int .i64 v, .int .i64 p] 49)).alloc (.cells #[.int .i64 k, sV t, .int .i64 v, .int .i64 q] 49)).heap[w.heap.size + 1]? = some (.cells #[.int .i64 k, sV t, .int .i64 v, .int .i64 q] 49 (0, 0)) := by
    have := alloc_here (w.alloc (.cells #[.int .i64 k, sV t, .int .i64 v, .int .i64 p] 49)) (.cells #[.int .i64 k, sV t, .int .i64 v, .int .i64 q] 49)
    rw [World.size_alloc] at this; exact this
  have hb1 : ((w.alloc (.cells #[.int .i64 k, sV t, .int .i64 v, .int .i64 p] 49)).alloc (.cells #[.int .i64 k, sV t, .int .i64 v, .int .i64 q] 49)).heap[w.heap.size]? = some (.cells #[.int .i64 k, sV t, .int .i64 v, .int .i64 p] 49 (0, 0)) := by
    rw [Below.heap_alloc _ _ _ (by rw [World.size_alloc]; omega)]
    exact alloc_here w _
  have x0 := cell_of (i := 0) hb1 rfl
  have x1 := cell_of (i := 1) hb1 rfl
  have x2 := cell_of (i := 2) hb1 rfl
  have y0 := cell_of (i := 0) hb2 rfl
  have y1 := cell_of (i := 1) hb2 rfl
  have y2 := cell_of (i := 2) hb2 rfl
  clear hb1 hb2
  go_enter Tryd.func19, Tryd.ntmps19
  go_wp2
  go_ret
  exact ⟨by first | rfl | simp, HX.out⟩
theorem stT_eq {a b : Tk} (h : stT a = stT b) : a.kind = b.kind ∧ a.text = b.text ∧ a.val = b.val := by
  unfold stT at h
  simp only [Tk.mk.injEq] at h
  exact ⟨h.1, h.2.1, h.2.2.1⟩
set_option maxRecDepth 100000 in
set_option maxHeartbeats 4000000 in
theorem SpEq_any (l m : List Tk) (p q : Option Addr) (c d : Nat) (w : World) (hP : TkRow w p l) (hQ : TkRow w q m) (hlm : m.map stT = l.map stT) (hl : l.length ≤ 10000) :
    Gives Tryd.prog 20 #[.slice p l.length c, .slice q m.length d, .func (.func 19) #[] #[]] w (.bool true) := by
  unfold Gives
  have en := enters_fn Tryd.func19 (by kernel_rfl) rfl
  have HP := Lib.hid (fun W (hW : Ext w W) => hP.ext hW)
  have HQ := Lib.hid (fun W (hW : Ext w W) => hQ.ext hW)
  have hml : m.length = l.length := by have := congrArg List.length hlm; simpa using this
  have HS := Lib.hid (fun (k : Nat) (h1 : k < l.length) (h2 : k < m.length) => (show stT m[k] = stT l[k] from by
    have h3 : (m.map stT)[k]? = (l.map stT)[k]? := by rw [hlm]
    rw [List.getElem?_map, List.getElem?_map, List.getElem?_eq_getElem h1, List.getElem?_eq_getElem h2] at h3
    exact Option.some.inj h3))
  have KC := Lib.hid (fun k t v p q W => spClos_any k t v p q W)
  clear hP hQ hlm
  obtain ⟨n, hn⟩ : ∃ n, l.length = n := ⟨_, rfl⟩
  rw [hn] at hl hml
  rw [hn, hml]
  have HN := Lib.hid hn
  have HM := Lib.hid hml
  clear hn hml
  go_enter Tryd.func20, Tryd.ntmps20
  go_wp2
  go_loopw [17] (fun i wr => ∃ k : Nat, k ≤ n ∧ i = .int .i64 (k : Int) ∧ Ext w wr) (fun i _ => n - (intOf i).toNat)
  case atStart => exact ⟨0, Nat.zero_le _, rfl, Below.refl _ _⟩
  case round =>
    obtain ⟨k, hk, rfl, hE⟩ := hrel
    have HE := Lib.hid hE
    clear hE
    by_cases hlt : k < n
    · have HKL := Lib.hid (show k < l.length by rw [HN.out]; exact hlt)
      have HKM := Lib.hid (show k < m.length by rw [HM.out]; exact hlt)
      obtain ⟨s1, s2, s3⟩ := stT_eq (HS.out k HKL.out HKM.out)
      obtain ⟨b1, o1, hp1, c0, c1, c2, c3⟩ := HP.out wr HE.out k HKL.out
      obtain ⟨b2, o2, hp2, d0, d1, d2, d3⟩ := HQ.out wr HE.out k HKM.out
      rw [s1] at d0
      rw [s2] at d1
      rw [s3] at d2
      subst hp1
      subst hp2
      clear s1 s2 s3
      generalize (l[k]'HKL.out).kind = tk at *
      generalize (l[k]'HKL.out).text = tx at *
      generalize (l[k]'HKL.out).val = tv at *
      generalize (l[k]'HKL.out).pos = tp at *
      generalize (m[k]'HKM.out).pos = tq at *
      have l2 : b2 < wr.heap.size := cell_lt' d0
      have HX := Lib.hid (show Ext w ((wr.alloc (.cells #[.int .i64 tk, sV tx, .int .i64 tv, .int .i64 tp] 49)).alloc (.cells #[.int .i64 tk, sV tx, .int .i64 tv, .int .i64 tq] 49)) from (HE.out.alloc HE.out.size _).alloc (Nat.le_trans HE.out.size (by simp)) _)
      have hb2 : ((wr.alloc (.cells #[.int .i64 tk, sV tx, .int .i64 tv, .int .i64 tp] 49)).alloc (.cells #[.int .i64 tk, sV tx, .int .i64 tv, .int .i64 tq] 49)).heap[wr.heap.size + 1]? = some (.cells #[.int .i64 tk, sV tx, .int .i64 tv, .int .i64 tq] 49 (0, 0)) := by
        have := alloc_here (wr.alloc (.cells #[.int .i64 tk, sV tx, .int .i64 tv, .int .i64 tp] 49)) (.cells #[.int .i64 tk, sV tx, .int .i64 tv, .int .i64 tq] 49)
        rw [World.size_alloc] at this; exact this
      have hb1 : ((wr.alloc (.cells #[.int .i64 tk, sV tx, .int .i64 tv, .int .i64 tp] 49)).alloc (.cells #[.int .i64 tk, sV tx, .int .i64 tv, .int .i64 tq] 49)).heap[wr.heap.size]? = some (.cells #[.int .i64 tk, sV tx, .int .i64 tv, .int .i64 tp] 49 (0, 0)) := by
        rw [Below.heap_alloc _ _ _ (by rw [World.size_alloc]; omega)]
        exact alloc_here wr _
      have x0 := cell_of (i := 0) hb1 rfl
      have x1 := cell_of (i := 1) hb1 rfl
      have x2 := cell_of (i := 2) hb1 rfl
      have x3 := cell_of (i := 3) hb1 rfl
      have y0 := cell_of (i := 0) hb2 rfl
      have y1 := cell_of (i := 1) hb2 rfl
      have y2 := cell_of (i := 2) hb2 rfl
      have y3 := cell_of (i := 3) hb2 rfl
      clear hb1 hb2
      have hk0 : (0 : Int) ≤ (k : Int) := by omega
      have hkn : (k : Int) < (n : Int) := by omega
      go_wp2_with fail
      refine (KC.out _ _ _ _ _ _).mono ?_
      intro w5 hE5
      have HE5 := Lib.hid (Ext.trans HX.out hE5)
      clear hE5 x0 x1 x2 x3 y0 y1 y2 y3
      go_wp2
      go_roundw
      case rel => exact ⟨k + 1, by omega, by go_num, HE5.out⟩
      case measure => simp [intOf]; omega
    · go_wp2
      go_ret
      exact ⟨rfl, HE.out⟩
end Go.Proofs.YtmokejjndkibhaaDoor

namespace Go.Proofs.YtmokejjndkibhaaDoor
open Go.RowKit Go.Shelf Ex
set_option linter.unusedVariables false
set_option linter.unusedSimpArgs false

theorem addZ {a : Addr} {w : World} {v : Value} (h : w.cell? (a.add 0) = some v) : a = ⟨a.block, a.off, none⟩ := by
  obtain ⟨b, o, s⟩ := a
  have hs : s = none := World.cell?_spot (a := ⟨b, o, s⟩) (by simpa [Addr.add] using h)
  rw [hs]
theorem addC {a : Addr} {j : Nat} {w : World} {v : Value} (h : w.cell? (a.add j) = some v) : w.cell? ⟨a.block, a.off + j, none⟩ = some v := by
  by_cases h0 : j = 0
  · subst h0
    have h1 := addZ h
    rw [h1] at h
    simpa [Addr.add] using h
  · unfold Addr.add at h
    rw [if_neg h0] at h
    exact h
/-- the bytes of a row that came in -/
theorem u8_row {w : World} {a : Option Addr} {len cap : Nat} {zs : List Int} (h : IsRow .u8 w a len cap zs) : ∃ z : Nat → Nat, ∀ i, i < len → z i ≤ 255 ∧ ∃ b o, a = some ⟨b, o, none⟩ ∧ w.cell? ⟨b, o + i, none⟩ = some (.int .u8 (z i : Int)) := by
  refine ⟨fun i => (zs.getD i 0).toNat, fun i hi => ?_⟩
  rcases h with ⟨_, h0, _⟩ | ⟨x, rfl, h1, h2, h3, h4, h5⟩
  · omega
  · have hil : i < zs.length := by omega
    have hc := h4 i hil
    have hz : (Lit.int .u8 (zs.getD i 0)).wf = true := h5 _ (by rw [List.getD_eq_getElem?_getD, List.getElem?_eq_getElem hil]; exact List.getElem_mem _)
    dsimp only
    generalize zs.getD i 0 = zv at *
    have hz2 : 0 ≤ zv ∧ zv ≤ 255 := by
      simp [Lit.wf, IntKind.min, IntKind.max, IntKind.signed, IntKind.bits] at hz
      omega
    refine ⟨by omega, x.block, x.off, ?_, ?_⟩
    · have h0 := h4 0 (by omega)
      rw [← addZ h0]
    · have := addC hc
      rw [this]
      congr 2
      omega
def kxS (z : Nat → Nat) (len i : Nat) : Nat := if len = 0 then 0 else z (i % len) % 5
theorem kxS_lt (z : Nat → Nat) (len i : Nat) : kxS z len i < 5 := by unfold kxS; split <;> omega
theorem spK_len5 : spK.length = 5 := rfl
def fS (z : Nat → Nat) (len : Nat) (i : Nat) : List UInt8 := spK[kxS z len i]'(kxS_lt z len i)
theorem fS_ok (z : Nat → Nat) (len i : Nat) : SepOk (fS z len i) := sepOk_spK _ _
theorem toksS_len {s : List UInt8} (he : (toksR s).2.2 = 0) : (toksR s).1.length ≤ s.length + 1 ∧ ∀ t ∈ (toksR s).1, t.text.length ≤ s.length := by
  obtain ⟨_, _, ts, h1, h2, h3⟩ := toksR_form he
  rw [h1]
  refine ⟨by simp; omega, fun t ht => ?_⟩
  rcases List.mem_append.1 ht with h | h
  · exact (h3 t h).2.2
  · obtain rfl := List.mem_singleton.1 h
    simp
set_option maxRecDepth 100000 in
set_option maxHeartbeats 8000000 in
theorem lexerSpaces_walk (a0 : ByteArray) (a : Option Addr) (len cap : Nat) (zs : List Int) (w : World) (h0 : a0.size ≤ 140737488351232) (hrow : IsRow .u8 w a len cap zs) (hTab : TabW w) (hM : MaxL w) : Gives Tryd.prog 6 #[.string a0, .slice a len cap] w (.bool true) := by
  obtain ⟨s, rfl⟩ := sB_of a0
  have hsz := sB_size s
  have KA := Lib.hid (fun W (hW : Ext w W) => lxAwake_any W (hTab.below hW) (hM.ext hW))
  obtain ⟨z, hz⟩ := u8_row hrow
  clear hTab hM hrow
  unfold Gives
  by_cases hl : 400 < s.length
  · clear hz
    go_enter Tryd.func6, Tryd.ntmps6
    go_wp2_with fail
    refine (KA.out _ (Below.refl _ _)).mono ?_
    intro w1 hE
    go_wp2
    go_ret
    exact ⟨rfl, hE⟩
  · by_cases hl2 : 40 < len
    · clear hz
      have hl2' : (40 : Int) < (len : Int) := by omega
      go_enter Tryd.func6, Tryd.ntmps6
      go_wp2_with fail
      refine (KA.out _ (Below.refl _ _)).mono ?_
      intro w1 hE
      go_wp2
      go_ret
      exact ⟨rfl, hE⟩
    · have hl2' : ¬ (40 : Int) < (len : Int) := by omega
      have KT := Lib.hid (Tokens_any s w (by omega))
      by_cases he : (toksR s).2.2 = 0
      · obtain ⟨hTL, hTX⟩ := toksS_len he
        have HLAW := Lib.hid (fun hl => sp_law (s := s) (by omega) he (fS_ok z len) hl)
        rw [he] at KT
        generalize (toksR s).2.1 = p0 at *
        generalize (toksR s).1 = l at *
        obtain ⟨n, hn⟩ : ∃ n, l.length = n := ⟨_, rfl⟩
        rw [hn] at hTL
        have hn401 : n ≤ 401 := by omega
        have HN := Lib.hid hn
        have HTX := Lib.hid (fun k (h : k < l.length) => (show (l[k]).text.length ≤ 400 from by have := hTX l[k] (List.getElem_mem h); omega))
        have HZ := Lib.hid hz
        have HOT := Lib.hid (fun j h => outS_take (fS z len) l j h)
        have KEQ := Lib.hid (fun m p q c d W hP hQ hlm => SpEq_any l m p q c d W hP hQ hlm (by omega))
        have KTK := Lib.hid (fun (x : List UInt8) (hx : x.length ≤ 100000) W => Tokens_any x W hx)
        clear hTX hTL he hz hn
        go_enter Tryd.func6, Tryd.ntmps6
        go_wp2_with fail
        refine (show Calls _ _ _ _ _ from KT.out).mono ?_
        rintro _ w1 ⟨v, rfl, hR1, hE1⟩
        obtain ⟨pr, cr, rfl, hP, hcap⟩ := hR1.at
        have HP := Lib.hid (fun W (hW : Ext w1 W) => hP.ext hW)
        have HE1 := Lib.hid hE1
        rw [HN.out] at hcap
        rw [HN.out]
        clear hR1 hP hE1
        go_upto_region 7 with fail
        obtain ⟨w6, hw6⟩ : ∃ W, w1.alloc (.cells #[.string { data := #[32] }, .string { data := #[10] }, .string { data := #[9, 32] }, .string { data := #[35, 32, 97, 32, 43, 32, 49, 10] }, .string { data := #[10, 10] }] 9) = W := ⟨_, rfl⟩
        rw [hw6]
        have hk := alloc_here w1 (.cells #[.string { data := #[32] }, .string { data := #[10] }, .string { data := #[9, 32] }, .string { data := #[35, 32, 97, 32, 43, 32, 49, 10] }, .string { data := #[10, 10] }] 9)
        rw [hw6] at hk
        have HK := Lib.hid (fun (k : Nat) (h : k < 5) => (show w6.cell? ⟨w1.heap.size, k, none⟩ = some (sV (spK[k]'h)) from by
          match k, h with
          | 0, _ => exact cell_of hk rfl
          | 1, _ => exact cell_of hk rfl
          | 2, _ => exact cell_of hk rfl
          | 3, _ => exact cell_of hk rfl
          | 4, _ => exact cell_of hk rfl))
        have HE16 := Lib.hid (show Ext w1 w6 from by rw [← hw6]; exact ext_alloc _ _)
        have HE6 := Lib.hid (Ext.trans HE1.out HE16.out)
        have HB0 := Lib.hid (Bld.fresh w6)
        have HX7 := Lib.hid (ext_alloc w6 (.cells #[.pointer none, .slice none 0 0] 47))
        clear hk hw6
        generalize w1.heap.size = KB at *
        go_wp2
        go_loopw [38] (fun i wr => ∃ j : Nat, j ≤ n ∧ i = .int .i64 (j : Int) ∧ Bld w6.heap.size w6.heap.size (outS (fS z len) 0 (l.take j)) wr ∧ (outS (fS z len) 0 (l.take j)).length ≤ j * 500 ∧ Ext w6 wr) (fun i _ => n - (intOf i).toNat)
        case atStart => exact ⟨0, Nat.zero_le _, rfl, HB0.out, by simp [outS], HX7.out⟩
        case round =>
          obtain ⟨j, hj, rfl, hB, hBl, hE⟩ := hrel
          have HE := Lib.hid hE
          have HB := Lib.hid hB
          clear hE hB
          by_cases hlt : j < n
          · have HJ := Lib.hid (show j < l.length from by rw [HN.out]; exact hlt)
            obtain ⟨bb, oo, hp, c0, c1, c2, c3⟩ := HP.out wr (Ext.trans HE16.out HE.out) j HJ.out
            subst hp
            have hot := HOT.out j HJ.out
            have htx := HTX.out j HJ.out
            generalize (l[j]'HJ.out).kind = tk at *
            generalize (l[j]'HJ.out).text = tx at *
            generalize (l[j]'HJ.out).val = tv at *
            generalize (l[j]'HJ.out).pos = tp at *
            obtain ⟨Y, hY⟩ : ∃ Y, outS (fS z len) 0 (l.take j) = Y := ⟨_, rfl⟩
            rw [hY] at hot hBl HB
            have hX := ext_alloc wr (.cells #[.int .i64 tk, sV tx, .int .i64 tv, .int .i64 tp] 49)
            have hb2 := alloc_here wr (.cells #[.int .i64 tk, sV tx, .int .i64 tv, .int .i64 tp] 49)
            have HX := Lib.hid hX
            have z1 := cell_of (i := 1) hb2 rfl
            clear hY hb2 hX
            have hY500 : Y.length ≤ 200500 := by have : j * 500 ≤ 401 * 500 := Nat.mul_le_mul_right _ (by omega); omega
            have KW1 := Lib.hid (writeString_any w6.heap.size w6.heap.size Y tx _ (HB.out.ext HX.out.below) (by omega) (Nat.le_trans HE.out.size HX.out.size))
            go_wp2_with fail
            refine (show Calls _ _ _ _ _ from KW1.out).mono ?_
            rintro _ w7 ⟨rfl, hB7, hE7⟩
            have HB7 := Lib.hid hB7
            have HE7 := Lib.hid (show Ext w6 w7 from (HE.out.below.trans (HX.out.below.mono HE.out.size)).trans hE7)
            clear hB7 hE7 z1
            have HK7 := Lib.hid (fun (k : Nat) (h : k < 5) => (HE7.out.below.cell (p := ⟨KB, k, none⟩) (cell_lt' (HK.out k h))).trans (HK.out k h))
            by_cases hz0 : len = 0
            · have hkx : fS z len j = spK[0]'(by decide) := by unfold fS; congr 1; unfold kxS; rw [if_pos hz0]
              have k0 := HK7.out 0 (by decide)
              have hkl := spK_len 0 (by decide)
              rw [hkx] at hot
              generalize spK[0]'(by decide) = kk at *
              have KW2 := Lib.hid (writeString_any w6.heap.size w6.heap.size (Y ++ tx) kk w7 HB7.out (by rw [List.length_append]; omega) HE7.out.size)
              have HOTJ := Lib.hid hot
              have hlz : ¬ (0 : Int) < (len : Int) := by omega
              clear hkx hot hz0
              go_wp2_with fail
              refine (show Calls _ _ _ _ _ from KW2.out).mono ?_
              rintro _ w8 ⟨rfl, hB8, hE8⟩
              have HB8 := Lib.hid hB8
              have HE8 := Lib.hid (show Ext w6 w8 from HE7.out.below.trans hE8)
              clear hB8 hE8
              go_wp2
              go_roundw
              case rel => exact ⟨j + 1, by omega, by go_num, by rw [HOTJ.out]; exact HB8.out, by rw [HOTJ.out]; simp only [List.length_append]; omega, HE8.out⟩
              case measure => simp [intOf]; omega
            · obtain ⟨m, hm⟩ : ∃ m, j % len = m := ⟨_, rfl⟩
              have hml : m < len := by rw [← hm]; exact Nat.mod_lt _ (by omega)
              have hjm : (j : Int).tmod (len : Int) = (m : Int) := by rw [Int.tmod_eq_emod_of_nonneg (by omega), ← hm]; exact (Int.natCast_emod _ _).symm
              obtain ⟨hz255, b0, o0, ha, hzc⟩ := HZ.out m hml
              have hkx : fS z len j = spK[z m % 5]'(by have := Nat.mod_lt (z m) (show 0 < 5 by decide); exact this) := by
                unfold fS; congr 1; unfold kxS; rw [if_neg hz0, hm]
              subst ha
              have hzc7 := (Ext.trans HE6.out HE7.out).below.cell (p := ⟨b0, o0 + m, none⟩) (cell_lt' hzc)
              rw [hzc] at hzc7
              generalize z m = zn at *
              obtain ⟨k, hkk⟩ : ∃ k, zn % 5 = k := ⟨_, rfl⟩
              have hk5 : k < 5 := by omega
              have hzk : (zn : Int).tmod 5 = (k : Int) := by rw [Int.tmod_eq_emod_of_nonneg (by omega)]; omega
              have hkx2 : fS z len j = spK[k]'hk5 := by rw [hkx]; congr 1
              have k0 := HK7.out k hk5
              have hkl := spK_len k hk5
              rw [hkx2] at hot
              generalize spK[k]'hk5 = kk at *
              have KW2 := Lib.hid (writeString_any w6.heap.size w6.heap.size (Y ++ tx) kk w7 HB7.out (by rw [List.length_append]; omega) HE7.out.size)
              have HOTJ := Lib.hid hot
              clear hkx hkx2 hot hm hkk hzc
              have hlen0 : ((len : Int) == 0) = false := by simpa using (show ¬ (len : Int) = 0 by omega)
              have hlenp : (0 : Int) < (len : Int) := by omega
              have hlm0 : (0 : Int) ≤ (m : Int) := by omega
              have hlm1 : (m : Int) < (len : Int) := by omega
              go_wp2_with fail
              refine (show Calls _ _ _ _ _ from KW2.out).mono ?_
              rintro _ w8 ⟨rfl, hB8, hE8⟩
              have HB8 := Lib.hid hB8
              have HE8 := Lib.hid (show Ext w6 w8 from HE7.out.below.trans hE8)
              clear hB8 hE8 hzc7
              go_wp2
              go_roundw
              case rel => exact ⟨j + 1, by omega, by go_num, by rw [HOTJ.out]; exact HB8.out, by rw [HOTJ.out]; simp only [List.length_append]; omega, HE8.out⟩
              case measure => simp [intOf]; omega
          · obtain rfl : j = n := by omega
            have htk : l.take j = l := List.take_of_length_le (by rw [HN.out]; exact Nat.le_refl _)
            rw [htk] at HB hBl
            clear htk
            obtain ⟨Y, hY⟩ : ∃ Y, outS (fS z len) 0 l = Y := ⟨_, rfl⟩
            rw [hY] at hBl HB HLAW
            have hY500 : Y.length ≤ 200500 := by have : j * 500 ≤ 401 * 500 := Nat.mul_le_mul_right _ (by omega); omega
            have KL := Lib.hid (show Calls Tryd.prog 17 #[.pointer (some ⟨w6.heap.size, 0, none⟩)] wr fun e w' => e = .returned (.int .i64 (Y.length : Int)) ∧ w' = wr from by
              have := Tryd.Builder_Len w6.heap.size w6.heap.size (bsV Y) wr HB.out
              rw [show (bsV Y).length = Y.length by simp [bsV]] at this
              exact this)
            have KS := Lib.hid (string_any w6.heap.size w6.heap.size Y wr HB.out HE.out.size)
            clear hY
            go_wp2_with fail
            refine (show Calls _ _ _ _ _ from KL.out).mono ?_
            rintro _ w7 ⟨rfl, hw7⟩
            rw [hw7]
            clear hw7
            by_cases h4 : 4000 < Y.length
            · go_wp2_with fail
              refine (KA.out _ (Ext.trans HE6.out HE.out)).mono ?_
              intro w9 hE9
              have HE9 := Lib.hid (Ext.trans (Ext.trans HE6.out HE.out) hE9)
              clear hE9
              go_wp2
              go_ret
              exact ⟨rfl, HE9.out⟩
            · obtain ⟨l', hl', hlm⟩ := HLAW.out (by omega)
              have HLM := Lib.hid hlm
              have KT2 := Lib.hid (fun W => (by have := KTK.out Y (by omega) W; rw [hl'] at this; exact this : Calls Tryd.prog 15 #[sV Y] W fun e w' => ∃ v, e = .returned (.tuple #[v, .int .i64 0, .int .i64 0]) ∧ RowT W.heap.size v l' w' ∧ Ext W w'))
              clear hl' hlm
              go_wp2_with fail
              refine (show Calls _ _ _ _ _ from KS.out).mono ?_
              rintro _ w8 ⟨rfl, hE8⟩
              have HE8 := Lib.hid (show Ext w6 w8 from HE.out.below.trans hE8)
              clear hE8
              go_wp2_with fail
              refine (show Calls _ _ _ _ _ from KT2.out _).mono ?_
              rintro _ w9 ⟨v2, rfl, hR2, hE9⟩
              obtain ⟨pr2, cr2, rfl, hP2, hcap2⟩ := hR2.at
              have HP2 := Lib.hid hP2
              have HE9 := Lib.hid (Ext.trans HE8.out hE9)
              have KE := Lib.hid (KEQ.out l' pr pr2 cr cr2 w9 (HP.out _ (Ext.trans HE16.out HE9.out)) HP2.out HLM.out)
              rw [HN.out] at KE
              clear hR2 hP2 hE9
              go_wp2_with fail
              refine (show Calls _ _ _ _ _ from KE.out).mono ?_
              rintro _ w10 ⟨rfl, hE10⟩
              have HE10 := Lib.hid (Ext.trans (Ext.trans HE6.out HE9.out) hE10)
              clear hE10
              go_wp2_with fail
              refine (KA.out _ HE10.out).mono ?_
              intro w11 hE11
              have HE11 := Lib.hid (Ext.trans HE10.out hE11)
              clear hE11
              go_wp2
              go_ret
              exact ⟨rfl, HE11.out⟩
      · have g1 : ((toksR s).2.2 == 0) = false := by simpa using he
        have g2 : ((toksR s).2.2 != 0) = true := by simpa using he
        clear he hz
        generalize (toksR s).2.1 = p0 at *
        generalize (toksR s).2.2 = e1 at *
        generalize (toksR s).1 = l at *
        go_enter Tryd.func6, Tryd.ntmps6
        go_wp2_with fail
        refine (show Calls _ _ _ _ _ from KT.out).mono ?_
        rintro _ w1 ⟨v, rfl, hR1, hE1⟩
        obtain ⟨pr, cr, rfl, hP, hcap⟩ := hR1.at
        have HE1 := Lib.hid hE1
        clear hR1 hP hE1
        go_wp2_with fail
        refine (KA.out _ HE1.out).mono ?_
        intro w9 hE9
        have HE9 := Lib.hid (Ext.trans HE1.out hE9)
        clear hE9
        go_wp2
        go_ret
        exact ⟨rfl, HE9.out⟩
end Go.Proofs.YtmokejjndkibhaaDoor

namespace Go.Proofs.YtmokejjndkibhaaDoor.lexerSpaces
open Go.ChangeShapes Go.WideShapes Go.ChangeAt Go.RowKit
open Go.ChangeMaps (open_string shut_string)
set_option linter.unusedVariables false

theorem own : ownKnob Tryd.prog.godebug = none := by kernel_rfl
theorem laidOut : laidOutB Tryd.prog = true := by kernel_rfl
/-- the cells of a datum of plain values -/
def flat : Nat → DataW Unit → List Value
  | _, .lit l => [l.value]
  | n + 1, .agg ps => ps.flatMap (flat n)
  | _, _ => []
/-- a world for the witness: the settled one, the listed tables holding what the text lays -/
def lay (d : DataW Unit) : Obj → Obj
  | .cells _ t frozen => .cells (flat 4 d).toArray t frozen
  | o => o
noncomputable def laidWorld (os : Os) : World :=
  { World.holding Tryd.prog os ⟨#[], #[], []⟩ with heap := ((((World.holding Tryd.prog os ⟨#[], #[], []⟩).heap.modify 2 (lay Rows.laid_math_bits_deBruijn32tab)).modify 3 (lay Rows.laid_math_bits_deBruijn64tab)).modify 1 (lay Rows.laid_internal_strconv_uint64pow10)) }
theorem laid_met (os : Os) : laidMet Tryd.prog Rows.lexerSpacesRow.laid ((laidWorld os).forCall (fun _ _ => 0) ⟨#[], #[.string ByteArray.empty, .slice none 0 0], []⟩).memory :=
  laidMet_of_run' 8 (by kernel_rfl) (by kernel_rfl)
theorem reads (os : Os) {H : Type} (enc : TypeId × Value → H) : ∃ places, DataW.whole enc Tryd.prog ((laidWorld os).forCall (fun _ _ => 0) ⟨#[], #[.string ByteArray.empty, .slice none 0 0], []⟩).memory Tryd.f6.params.toList Rows.lexerSpacesSpec.vars false (#[.string ByteArray.empty, .slice none 0 0] : Array Value).toList 8 = some ([.lit (.string []), .nil], [], places) :=
  ⟨[], by kernel_rfl⟩
theorem shape (W : World) (h : W.ShapedOpen Tryd.prog) : MaxL W := cell_of_shapedOpen_int (zero := #[.int .i64 0]) h (of_decide_eq_true (by kernel_rfl)) (by kernel_rfl) (by kernel_rfl) (by kernel_rfl) (by kernel_rfl) Tryd.underlying3

theorem tab (W : World) (h : laidMetH Tryd.prog Rows.lexerSpacesRow.laid W) : TabW W := by
  have h1 : laidMet Tryd.prog Rows.lexerSpacesRow.laid W := h
  exact Lib.tabIs_of_head (g := 1) (t := 121) (e := 113) (n := 20) (by kernel_rfl) (by kernel_rfl) Tryd.underlying121 Tryd.underlying113 (by kernel_rfl) (by kernel_rfl) h1.tail.tail
set_option maxRecDepth 100000 in
theorem contract (H : Type) (enc : TypeId × Value → H) (W : World) (base : Nat) (args : Array Value) (ds gs : List (DataW H)) (before : List MemPlace)
    (hval0 : ∀ (j : Nat) t v, Tryd.f6.params[j]? = some t → args[j]? = some v → Value.okWide Tryd.prog W .any base t v)
    (hW : DataW.Whole enc Tryd.prog Tryd.f6.params.toList Rows.lexerSpacesSpec.vars false W args.toList ds gs before) (hz : (DataW.weightsEach Tryd.prog (Tryd.f6.params.toList ++ (OpenSpec.ofChange Rows.lexerSpacesSpec).bare.plain.varTypes Tryd.prog) (ds ++ gs)).all (· ≤ reachBytes) = true) (hL : laidMetH Tryd.prog Rows.lexerSpacesRow.laid W) (hm : MaxL W) :
    Calls Tryd.prog 6 args W fun e W' => ∃ v, e = .returned v ∧ Rows.lexerSpacesSpec.post enc Tryd.prog Tryd.f6 false true false false W args v W' := by
  have hval := hval0
  have hW' := hW
  obtain ⟨p, q, hA0, hV, rfl, hfz, hnd⟩ := hW
  have hA : DataW.TrodAll enc Tryd.prog W 0 (fun _ => true) true Tryd.f6.params.toList args.toList ds p := hA0
  rw [Tryd.params6] at hA hval
  obtain ⟨v0, vs0, d0, ds0, p0, q0, hargs, rfl, rfl, h0, r0⟩ := trodAll_cons hA
  obtain ⟨v1, vs1, d1, ds1, p1, q1, rfl, rfl, rfl, h1, r1⟩ := trodAll_cons r0
  obtain ⟨rfl, rfl, rfl⟩ := trodAll_nil r1
  obtain rfl : args = #[v0, v1] := by cases args; simp_all
  obtain ⟨rfl, rfl⟩ := trodVars_none hV
  obtain ⟨a0, rfl, rfl, rfl, w0⟩ := open_string Tryd.underlying9 (hval 0 9 v0 rfl rfl) h0
  obtain ⟨a1, len1, cap1, rfl⟩ := okWide_slice Tryd.underlying40 (hval 1 40 v1 rfl rfl)
  have k1 := h1
  have lt1 : ∀ x ∈ p1, x.block < W.heap.size := by obtain ⟨m, hm⟩ := k1; exact DataW.trod_lt m _ _ _ hm
  obtain ⟨z1, w1⟩ : ∃ zs, IsRow .u8 W a1 len1 cap1 zs := by
    obtain ⟨fuel, hf⟩ := h1
    rcases open_ints Tryd.underlying40 Tryd.underlying5 (by kernel_rfl) hf with ⟨hcs, _⟩ | ⟨x, l, c, zs, hcs, _, hl, hm, hz, _, hcell, hwz⟩
    · simp [Value.cells] at hcs
      obtain ⟨rfl, rfl, rfl⟩ := hcs
      exact ⟨[], .inl ⟨rfl, rfl, rfl, rfl⟩⟩
    · simp [Value.cells] at hcs
      obtain ⟨rfl, rfl, rfl⟩ := hcs
      exact ⟨zs, .inr ⟨_, rfl, hl, hm, by simpa using hz, hcell, hwz⟩⟩
  have s0 : a0.size ≤ 140737488351232 := by rw [Lib.size_eq]; exact sized_string hz (j := 0) rfl rfl
  clear hA0 hval0 hz
  refine (lexerSpaces_walk a0 a1 len1 cap1 z1 W s0 w1 (tab W hL) hm).mono fun W' bel => ?_
  exact ⟨_, rfl, _, _, _, [], _, [], hW', trodAll_mk1 (shut_bool Tryd.underlying4 _), (trodAll_cons_mk (shut_string Tryd.underlying9 w0) (trodAll_cons_mk (Below.trod laidOut (by kernel_rfl) (of_decide_eq_true (by kernel_rfl)) k1 bel lt1) trodAll_mk0)), rfl, bel.frame _, fun h => by cases h⟩

set_option maxRecDepth 100000 in
theorem lifted (os : Os) (started : os.Started) (H : Type) (enc : TypeId × Value → H) (F : Stop.Interp) :
    ReturnsInHanded {} Tryd.checked os 6 .any ((OpenSpec.ofChange Rows.lexerSpacesSpec).preRow enc Tryd.prog Tryd.f6 Rows.lexerSpacesRow.domain false Rows.lexerSpacesRow.laid) (((OpenSpec.ofChange Rows.lexerSpacesSpec).at F).post enc Tryd.prog Tryd.f6 false true false false) := by
  obtain ⟨places, hx⟩ := reads os enc
  refine returnsInHanded_of_row (C := Tryd.checked) (s := OpenSpec.ofChange Rows.lexerSpacesSpec) own started (by kernel_rfl) Tryd.func6
    (witness_row_at (enc := enc) (C := Tryd.checked) false (laidWorld os) #[.string ByteArray.empty, .slice none 0 0] rfl (by kernel_rfl) (by kernel_rfl) (by kernel_rfl)
      (OpenSpec.preRow_of_cond 8 hx (by kernel_rfl) (fun k hk => by cases hk) (by kernel_rfl) (laid_met os))) ?_
  intro W base args ds gs before hval hW _ _ hz hL hsh _
  exact contract H enc W base args ds gs before hval hW hz hL (shape W hsh)

theorem said : Rows.LexerSpacesSaid :=
  OpenClaim.holds_of_cond 6 Tryd.f6 rfl rfl rfl rfl rfl rfl rfl ⟨rfl, rfl, rfl, rfl, rfl⟩ rfl rfl rfl rfl rfl (by kernel_rfl) Tryd.func6 (by kernel_rfl)
    (of_decide_eq_true (by kernel_rfl)) (by unfold Func.isWrapper; first | (rw [if_pos (by decide +kernel)]; kernel_rfl) | (rw [if_neg (by decide +kernel)]; exact ⟨rfl, rfl⟩))
    (fun os started H enc _ F => by rw [OpenClaim.pre_eq_preRow]; exact lifted os started H enc F)

theorem plain (f : FuncId) (fn : Func) (hf : Tryd.pinned.checked.prog.funcNamed "nursery/nurserylaw10.LexerSpaces" = some f) (hfn : Tryd.pinned.checked.prog.funcs[f]? = some fn) :
    true = Tryd.pinned.checked.prog.looks [] ∧ ∀ (j : Nat) t, fn.params[j]? = some t → Tryd.pinned.checked.prog.wantsStandIn t = false := by
  obtain rfl : f = 6 := Option.some.inj ((show Tryd.prog.funcNamed "nursery/nurserylaw10.LexerSpaces" = some 6 by kernel_rfl).symm.trans hf) |>.symm
  obtain rfl : fn = Tryd.f6 := (Option.some.inj (Tryd.func6.symm.trans hfn)).symm
  refine ⟨by kernel_rfl, fun j t ht => ?_⟩
  rw [Tryd.params6] at ht
  rcases j with _ | _ | j
  · obtain rfl : t = 9 := by simpa using ht.symm
    exact (show Tryd.prog.wantsStandIn 9 = false by kernel_rfl)
  · obtain rfl : t = 40 := by simpa using ht.symm
    exact (show Tryd.prog.wantsStandIn 40 = false by kernel_rfl)
  · simp at ht

/-- the statement -/
theorem proved : Rows.LexerSpacesCardSaid :=
  Claim7.holds_tied_plain_at .later [] _ _ _ _ said (fun _ h => by cases h) (by kernel_rfl) (fun _ h => by cases h) lexerSpaces_row_tie rfl ⟨rfl, rfl⟩ (by kernel_rfl) rfl plain (by kernel_rfl)
#print axioms proved
end Go.Proofs.YtmokejjndkibhaaDoor.lexerSpaces

