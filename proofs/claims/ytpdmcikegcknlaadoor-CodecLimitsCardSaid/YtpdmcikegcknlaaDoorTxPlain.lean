/- Texts: their encoding and their reading, plain. -/
import Derived.Lib.ReplaceLaws
import Derived.Test.YtpdmcikegcknlaaDoorBase
namespace Go.Proofs.YtpdmcikegcknlaaDoor
open Go.Lib (index countFrom replaceK replaceAll replace replaceNum count)

/-- a byte of a text, encoded -/
def esc1 (c : UInt8) : List UInt8 := if c = 0 then [0, 255] else [c]
def esc (l : List UInt8) : List UInt8 := l.flatMap esc1
/-- the encoding of a text -/
def encT (l : List UInt8) : List UInt8 := esc l ++ [0, 1]
def txS (l : List UInt8) : List UInt8 := if 100000 < l.length then [] else encT l
def txE (l : List UInt8) : Int := if 100000 < l.length then 4 else 0

theorem esc_nil : esc [] = [] := rfl
theorem esc_cons (c : UInt8) (l : List UInt8) : esc (c :: l) = esc1 c ++ esc l := by simp [esc]
theorem esc_app (a b : List UInt8) : esc (a ++ b) = esc a ++ esc b := by simp [esc]
theorem esc_snoc (a : List UInt8) (c : UInt8) : esc (a ++ [c]) = esc a ++ esc1 c := by simp [esc]
theorem esc1_len (c : UInt8) : 1 ≤ (esc1 c).length ∧ (esc1 c).length ≤ 2 := by unfold esc1; split <;> simp
theorem esc_len : ∀ l : List UInt8, l.length ≤ (esc l).length ∧ (esc l).length ≤ 2 * l.length
  | [] => by simp [esc]
  | c :: l => by have := esc_len l; have := esc1_len c; rw [esc_cons]; simp; omega

theorem idx0 : ∀ s : List UInt8, (index s [0] = -1 ∧ esc s = s) ∨ ∃ a b, s = a ++ 0 :: b ∧ index s [0] = (a.length : Int) ∧ esc a = a
  | [] => .inl ⟨by simp [index], rfl⟩
  | c :: l => by
    by_cases h : c = 0
    · subst h
      exact .inr ⟨[], l, rfl, by simp [index], rfl⟩
    · have hp : ([0] : List UInt8).isPrefixOf (c :: l) = false := by simp [List.isPrefixOf]; exact fun e => h e.symm
      have hs : esc1 c = [c] := by unfold esc1; rw [if_neg h]
      rcases idx0 l with ⟨h1, h2⟩ | ⟨a, b, h1, h2, h3⟩
      · refine .inl ⟨?_, by rw [esc_cons, hs, h2]; rfl⟩
        rw [index, hp, h1]; rfl
      · refine .inr ⟨c :: a, b, by rw [h1]; rfl, ?_, by rw [esc_cons, hs, h3]; rfl⟩
        rw [index, hp, h2]
        simp

theorem repl_esc : ∀ (f : Nat) (s : List UInt8), s.length < f → replaceK [0] [0, 255] (countFrom [0] f s) s = esc s
  | 0, s, h => by omega
  | f + 1, s, h => by
    rcases idx0 s with ⟨h1, h2⟩ | ⟨a, b, h1, h2, h3⟩
    · rw [countFrom, h1]; simp [replaceK, h2]
    · rw [countFrom, h2]
      have hne : ¬ ((a.length : Int) == -1) = true := by simp
      rw [if_neg hne, Nat.add_comm 1, Go.Lib.replaceK_hit _ _ _ _ a.length h2]
      have hd : s.drop (((a.length : Int)).toNat + ([0] : List UInt8).length) = b := by rw [h1]; simp
      have hd2 : s.drop (a.length + ([0] : List UInt8).length) = b := by rw [h1]; simp
      have ht : s.take a.length = a := by rw [h1]; simp
      rw [hd, hd2, ht, repl_esc f b (by rw [h1] at h; simp at h; omega), h1, esc_app, esc_cons, h3]
      simp [esc1]
theorem replaceAll_esc (s : List UInt8) : replaceAll s [0] [0, 255] = esc s := by
  unfold replaceAll replace
  rw [if_neg (by decide)]
  unfold replaceNum
  rw [if_pos (.inl (by decide))]
  exact repl_esc _ _ (by omega)
theorem count_le (f : Nat) : ∀ s : List UInt8, countFrom [0] f s ≤ s.length := by
  induction f with
  | zero => intro s; simp [countFrom]
  | succ f ih =>
    intro s
    rcases idx0 s with ⟨h1, h2⟩ | ⟨a, b, h1, h2, h3⟩
    · rw [countFrom, h1]; simp
    · rw [countFrom, h2]
      have hne : ¬ ((a.length : Int) == -1) = true := by simp
      have hd : s.drop (((a.length : Int)).toNat + ([0] : List UInt8).length) = b := by rw [h1]; simp
      rw [if_neg hne, hd]
      have := ih b
      rw [h1]; simp; omega

/-- reading a text from the rest r of a string on: acc is what has been read, at_ the bytes that it takes -/
def rdT : List UInt8 → Nat → List UInt8 → List UInt8 × Nat × Int
  | _, _, [] => ([], 0, 11)
  | acc, at_, [c] => if c = 0 then ([], 0, 11) else if acc.length = 100000 then ([], 0, 4) else rdT (acc ++ [c]) (at_ + 1) []
  | acc, at_, c :: d :: t =>
    if c = 0 then
      if d = 1 then (acc, at_ + 2, 0)
      else if d ≠ 255 then ([], 0, 12)
      else if acc.length = 100000 then ([], 0, 4)
      else rdT (acc ++ [0]) (at_ + 2) t
    else if acc.length = 100000 then ([], 0, 4)
    else rdT (acc ++ [c]) (at_ + 1) (d :: t)
/-- reading a text -/
def rdX (s : List UInt8) : List UInt8 × Nat × Int := rdT [] 0 s

theorem rdT_one (acc : List UInt8) (at_ : Nat) (c : UInt8) (t : List UInt8) (h : c ≠ 0) (h2 : acc.length ≠ 100000) : rdT acc at_ (c :: t) = rdT (acc ++ [c]) (at_ + 1) t := by
  cases t with
  | nil => simp [rdT, h, h2]
  | cons d t => rw [rdT, if_neg h, if_neg h2]
theorem rdT_lim (acc : List UInt8) (at_ : Nat) (c : UInt8) (t : List UInt8) (h : c ≠ 0) (h2 : acc.length = 100000) : rdT acc at_ (c :: t) = ([], 0, 4) := by
  cases t with
  | nil => simp [rdT, h, h2]
  | cons d t => rw [rdT, if_neg h, if_pos h2]
theorem rdT_enc : ∀ (l acc : List UInt8) (at_ : Nat) (rest : List UInt8), acc.length + l.length ≤ 100000 → rdT acc at_ (encT l ++ rest) = (acc ++ l, at_ + (encT l).length, 0)
  | [], acc, at_, rest, h => by simp [encT, esc, rdT]
  | c :: l, acc, at_, rest, h => by
    have e : encT (c :: l) ++ rest = esc1 c ++ (encT l ++ rest) := by simp [encT, esc_cons]
    have hl : acc.length ≠ 100000 := by simp at h; omega
    rw [e]
    by_cases hc : c = 0
    · subst hc
      have e2 : esc1 0 ++ (encT l ++ rest) = 0 :: 255 :: (encT l ++ rest) := rfl
      rw [e2, rdT, if_pos rfl, if_neg (by decide), if_neg (by simp), if_neg hl, rdT_enc l _ _ rest (by simp at h ⊢; omega)]
      simp [encT, esc_cons, esc1]; omega
    · have e2 : esc1 c ++ (encT l ++ rest) = c :: (encT l ++ rest) := by unfold esc1; rw [if_neg hc]; rfl
      rw [e2, rdT_one _ _ _ _ hc hl, rdT_enc l _ _ rest (by simp at h ⊢; omega)]
      simp [encT, esc_cons, esc1, hc]; omega
theorem rdX_enc (l rest : List UInt8) (h : l.length ≤ 100000) : rdX (encT l ++ rest) = (l, (encT l).length, 0) := by
  unfold rdX; rw [rdT_enc l [] 0 rest (by simpa using h)]; simp

theorem rdT_ok : ∀ (acc : List UInt8) (at_ : Nat) (r : List UInt8), (rdT acc at_ r).2.2 = 0 → acc.length ≤ 100000 →
    ∃ l, rdT acc at_ r = (acc ++ l, at_ + (encT l).length, 0) ∧ (encT l).length ≤ r.length ∧ r.take (encT l).length = encT l ∧ acc.length + l.length ≤ 100000 := by
  intro acc at_ r
  induction acc, at_, r using rdT.induct with
  | case1 => intro h; simp [rdT] at h
  | case2 => intro h; simp [rdT] at h
  | case3 acc at_ c h0 h2 => intro h; simp [rdT, h0, h2] at h
  | case4 acc at_ c h0 h2 ih => intro h; simp [rdT, h0, h2] at h
  | case5 acc at_ t =>
    intro _ hl
    exact ⟨[], by simp [rdT, encT, esc], by simp [encT, esc], by simp [encT, esc], by simpa using hl⟩
  | case6 acc at_ d t h1 h2 => intro h; simp [rdT, h1, h2] at h
  | case7 acc at_ d t h1 h2 h3 => intro h; simp at h2; subst h2; simp [rdT, h3] at h
  | case8 acc at_ d t h1 h2 h3 ih =>
    intro h hl
    have h2' : d = 255 := by simpa using h2
    subst h2'
    have e : rdT acc at_ (0 :: 255 :: t) = rdT (acc ++ [0]) (at_ + 2) t := by rw [rdT, if_pos rfl, if_neg (by decide), if_neg (by simp), if_neg h3]
    rw [e] at h
    obtain ⟨l, q1, q2, q3, q4⟩ := ih h (by simp; omega)
    refine ⟨0 :: l, ?_, ?_, ?_, by simp at q4 ⊢; omega⟩
    · rw [e, q1]; simp [encT, esc_cons, esc1]; omega
    · simp [encT, esc_cons, esc1] at q2 ⊢; omega
    · have e2 : encT (0 :: l) = 0 :: 255 :: encT l := by simp [encT, esc_cons, esc1]
      rw [e2, List.length_cons, List.length_cons, List.take_succ_cons, List.take_succ_cons, q3]
  | case9 acc at_ c d t h0 h2 => intro h; simp [rdT, h0, h2] at h
  | case10 acc at_ c d t h0 h2 ih =>
    intro h hl
    have e : rdT acc at_ (c :: d :: t) = rdT (acc ++ [c]) (at_ + 1) (d :: t) := by rw [rdT, if_neg h0, if_neg h2]
    rw [e] at h
    obtain ⟨l, q1, q2, q3, q4⟩ := ih h (by simp; omega)
    have e2 : encT (c :: l) = c :: encT l := by simp [encT, esc_cons, esc1, h0]
    refine ⟨c :: l, ?_, ?_, ?_, by simp at q4 ⊢; omega⟩
    · rw [e, q1, e2]; simp; omega
    · rw [e2]; simp at q2 ⊢; omega
    · rw [e2, List.length_cons, List.take_succ_cons, q3]
theorem rdX_ok {s : List UInt8} (h : (rdX s).2.2 = 0) : (rdX s).2.1 = (encT (rdX s).1).length ∧ (rdX s).2.1 ≤ s.length ∧ s.take (rdX s).2.1 = encT (rdX s).1 ∧ (rdX s).1.length ≤ 100000 := by
  obtain ⟨l, q1, q2, q3, q4⟩ := rdT_ok [] 0 s h (by simp)
  unfold rdX
  rw [q1]
  simp at q4 ⊢
  exact ⟨q2, q3, q4⟩
theorem rdT_err : ∀ (acc : List UInt8) (at_ : Nat) (r : List UInt8), (rdT acc at_ r).2.2 ≠ 0 → (rdT acc at_ r).1 = [] ∧ (rdT acc at_ r).2.1 = 0 := by
  intro acc at_ r
  induction acc, at_, r using rdT.induct with
  | case1 => intro _; simp [rdT]
  | case2 => intro _; simp [rdT]
  | case3 acc at_ c h0 h2 => intro _; simp [rdT, h0, h2]
  | case4 acc at_ c h0 h2 ih => intro _; simp [rdT, h0, h2]
  | case5 acc at_ t => intro h; simp [rdT] at h
  | case6 acc at_ d t h1 h2 => intro _; simp [rdT, h1, h2]
  | case7 acc at_ d t h1 h2 h3 => intro _; simp at h2; subst h2; simp [rdT, h3]
  | case8 acc at_ d t h1 h2 h3 ih =>
    have h2' : d = 255 := by simpa using h2
    subst h2'
    have e : rdT acc at_ (0 :: 255 :: t) = rdT (acc ++ [0]) (at_ + 2) t := by rw [rdT, if_pos rfl, if_neg (by decide), if_neg (by simp), if_neg h3]
    rw [e]; exact ih
  | case9 acc at_ c d t h0 h2 => intro _; simp [rdT, h0, h2]
  | case10 acc at_ c d t h0 h2 ih =>
    have e : rdT acc at_ (c :: d :: t) = rdT (acc ++ [c]) (at_ + 1) (d :: t) := by rw [rdT, if_neg h0, if_neg h2]
    rw [e]; exact ih
theorem rdX_err {s : List UInt8} (h : (rdX s).2.2 ≠ 0) : (rdX s).1 = [] ∧ (rdX s).2.1 = 0 := rdT_err _ _ _ h

end Go.Proofs.YtpdmcikegcknlaaDoor
