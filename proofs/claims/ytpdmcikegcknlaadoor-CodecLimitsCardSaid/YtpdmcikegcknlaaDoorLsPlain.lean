/- Lists of integers: their encoding and their reading, plain. -/
import Derived.Test.YtpdmcikegcknlaaDoorRdPlain
namespace Go.Proofs.YtpdmcikegcknlaaDoor

def inR (n : Int) : Bool := decide (-4611686018427387904 ≤ n) && decide (n ≤ 4611686018427387904)
theorem inR_iff (n : Int) : inR n = true ↔ -4611686018427387904 ≤ n ∧ n ≤ 4611686018427387904 := by simp [inR]
def encs (l : List Int) : List UInt8 := l.flatMap enc
def encL (l : List Int) : List UInt8 := encs l ++ [1]
theorem encs_nil : encs [] = [] := rfl
theorem encs_cons (n : Int) (l : List Int) : encs (n :: l) = enc n ++ encs l := by simp [encs]
theorem encs_app (l m : List Int) : encs (l ++ m) = encs l ++ encs m := by simp [encs]
theorem encs_snoc (l : List Int) (n : Int) : encs (l ++ [n]) = encs l ++ enc n := by simp [encs]
/-- what List answers -/
def lsS (l : List Int) : List UInt8 := if 20000 < l.length then [] else if l.all inR = true then encL l else []
def lsE (l : List Int) : Int := if 20000 < l.length then 4 else if l.all inR = true then 0 else 2

theorem enc_pos (n : Int) : 1 ≤ (enc n).length := by unfold enc; split <;> simp
theorem enc_le9 (n : Int) (h1 : -4611686018427387904 ≤ n) (h2 : n ≤ 4611686018427387904) : (enc n).length ≤ 9 := by
  unfold enc
  split
  · have := mag_len n.toNat (by omega); simp; omega
  · have := mag_len (-n - 1).toNat (by omega); simp only [List.length_cons, List.length_map]; omega
theorem encs_len : ∀ (l : List Int), l.all inR = true → (encs l).length ≤ 9 * l.length
  | [], _ => by simp [encs]
  | n :: l, h => by
    rw [List.all_cons, Bool.and_eq_true, inR_iff] at h
    have := encs_len l h.2
    have := enc_le9 n h.1.1 h.1.2
    rw [encs_cons]; simp; omega
/-- the head of an encoding is not the end's mark -/
theorem enc_head (n : Int) (h1 : -4611686018427387904 ≤ n) (h2 : n ≤ 4611686018427387904) : ∃ c t, enc n = c :: t ∧ c ≠ 1 := by
  unfold enc
  split
  · have h := mag_len n.toNat (by omega)
    exact ⟨_, _, rfl, fun e => by have := headP_nat h; rw [e] at this; have h1 : (1 : UInt8).toNat = 1 := rfl; omega⟩
  · have h := mag_len (-n - 1).toNat (by omega)
    refine ⟨_, _, rfl, fun e => ?_⟩
    have := headN_nat h
    rw [e] at this
    have h1 : (1 : UInt8).toNat = 1 := rfl
    omega

/-- reading the elements of a list from the rest r of a string on: acc is what has been read, at_ the bytes that it takes -/
def rdA : Nat → List Int → Nat → List UInt8 → List Int × Nat × Int
  | 0, _, _, _ => ([], 0, 11)
  | _ + 1, _, _, [] => ([], 0, 11)
  | f + 1, acc, at_, c :: t =>
    if c = 1 then (acc, at_ + 1, 0)
    else if acc.length = 20000 then ([], 0, 4)
    else if (rdI (c :: t)).2.2 ≠ 0 then ([], 0, (rdI (c :: t)).2.2)
    else rdA f (acc ++ [(rdI (c :: t)).1]) (at_ + (rdI (c :: t)).2.1) ((c :: t).drop (rdI (c :: t)).2.1)
/-- reading a list -/
def rdL (s : List UInt8) : List Int × Nat × Int := rdA (s.length + 1) [] 0 s

theorem rdI_size {r : List UInt8} (h : (rdI r).2.2 = 0) : 1 ≤ (rdI r).2.1 ∧ (rdI r).2.1 ≤ r.length ∧ inR (rdI r).1 = true ∧ r.take (rdI r).2.1 = enc (rdI r).1 ∧ (enc (rdI r).1).length = (rdI r).2.1 := by
  have := rdI_ok r (rdI r).1 (rdI r).2.1 (by rw [← h])
  have h1 := enc_pos (rdI r).1
  refine ⟨by omega, this.2.2.1, (inR_iff _).2 ⟨this.1, this.2.1⟩, this.2.2.2.1, this.2.2.2.2⟩

theorem rdA_ok : ∀ (f : Nat) (acc : List Int) (at_ : Nat) (r : List UInt8), (rdA f acc at_ r).2.2 = 0 →
    ∃ l, rdA f acc at_ r = (acc ++ l, at_ + (encL l).length, 0) ∧ l.all inR = true ∧ (encL l).length ≤ r.length ∧ r.take (encL l).length = encL l ∧ (acc.length + l.length ≤ 20000 ∨ 20000 < acc.length)
  | 0, acc, at_, r, h => by simp [rdA] at h
  | f + 1, acc, at_, [], h => by simp [rdA] at h
  | f + 1, acc, at_, c :: t, h => by
    rw [rdA] at h ⊢
    split at h
    · rename_i hc
      subst hc
      rw [if_pos rfl]
      exact ⟨[], by simp [encL, encs], rfl, by simp [encL, encs], by simp [encL, encs], by simp; omega⟩
    · rename_i hc
      rw [if_neg hc]
      split at h
      · simp at h
      · rename_i h2
        rw [if_neg h2]
        split at h
        · rename_i h3
          exact absurd h h3
        · rename_i h3
          rw [if_neg h3]
          have h4 : (rdI (c :: t)).2.2 = 0 := by omega
          obtain ⟨p1, p2, p3, p4, p5⟩ := rdI_size h4
          generalize (rdI (c :: t)).1 = n at *
          generalize (rdI (c :: t)).2.1 = k at *
          obtain ⟨l, q1, q2, q3, q4, q5⟩ := rdA_ok f _ _ _ h
          refine ⟨n :: l, ?_, by simp [p3, q2], ?_, ?_, ?_⟩
          · rw [q1]; simp [encL, encs_cons, p5]; omega
          · simp [encL, encs_cons] at q3 ⊢; simp at p2; omega
          · have e : encL (n :: l) = enc n ++ encL l := by simp [encL, encs_cons]
            rw [e, List.length_append, p5, List.take_add, p4, q4]
          · simp at q5 ⊢; omega
theorem rdA_err : ∀ (f : Nat) (acc : List Int) (at_ : Nat) (r : List UInt8), (rdA f acc at_ r).2.2 ≠ 0 → (rdA f acc at_ r).1 = [] ∧ (rdA f acc at_ r).2.1 = 0
  | 0, acc, at_, r, h => by simp [rdA]
  | f + 1, acc, at_, [], h => by simp [rdA]
  | f + 1, acc, at_, c :: t, h => by
    rw [rdA] at h ⊢
    split at h
    · simp at h
    · rename_i hc
      rw [if_neg hc]
      split at h
      · rename_i h2; rw [if_pos h2]; exact ⟨rfl, rfl⟩
      · rename_i h2
        rw [if_neg h2]
        split at h
        · rename_i h3; rw [if_pos h3]; exact ⟨rfl, rfl⟩
        · rename_i h3; rw [if_neg h3]; exact rdA_err f _ _ _ h
theorem rdA_enc : ∀ (l : List Int) (f : Nat) (acc : List Int) (at_ : Nat) (rest : List UInt8), l.all inR = true → acc.length + l.length ≤ 20000 → l.length < f →
    rdA f acc at_ (encL l ++ rest) = (acc ++ l, at_ + (encL l).length, 0)
  | [], f + 1, acc, at_, rest, _, _, _ => by simp [encL, encs, rdA]
  | n :: l, f + 1, acc, at_, rest, h, h2, h3 => by
    rw [List.all_cons, Bool.and_eq_true, inR_iff] at h
    obtain ⟨c, t, hc, hc1⟩ := enc_head n h.1.1 h.1.2
    have e : encL (n :: l) ++ rest = enc n ++ (encL l ++ rest) := by simp [encL, encs_cons]
    have hr := rdI_enc n h.1.1 h.1.2 (encL l ++ rest)
    rw [e]
    have e2 : enc n ++ (encL l ++ rest) = c :: (t ++ (encL l ++ rest)) := by rw [hc]; rfl
    rw [e2] at hr ⊢
    rw [rdA, if_neg hc1, if_neg (by simp at h2; omega), hr, if_neg (by simp)]
    simp only
    rw [← e2, List.drop_left' rfl, rdA_enc l f _ _ rest h.2 (by simp at h2 ⊢; omega) (by simp at h3; omega)]
    simp [encL, encs_cons]; omega

theorem encs_ge (l : List Int) : l.length ≤ (encs l).length := by
  induction l with
  | nil => simp
  | cons n l ih => rw [encs_cons]; have := enc_pos n; simp; omega
theorem rdL_enc (l : List Int) (rest : List UInt8) (h : l.all inR = true) (h2 : l.length ≤ 20000) : rdL (encL l ++ rest) = (l, (encL l).length, 0) := by
  have := encs_ge l
  unfold rdL
  rw [rdA_enc l _ [] 0 rest h (by simpa using h2) (by simp [encL]; omega)]
  simp
theorem rdL_ok {s : List UInt8} (h : (rdL s).2.2 = 0) : (rdL s).1.all inR = true ∧ (rdL s).2.1 = (encL (rdL s).1).length ∧ (rdL s).2.1 ≤ s.length ∧ s.take (rdL s).2.1 = encL (rdL s).1 ∧ (rdL s).1.length ≤ 20000 := by
  obtain ⟨l, q1, q2, q3, q4, q5⟩ := rdA_ok _ _ _ _ h
  unfold rdL
  rw [q1]
  simp at q5 ⊢
  exact ⟨by simpa using q2, q3, q4, q5⟩
theorem rdL_err {s : List UInt8} (h : (rdL s).2.2 ≠ 0) : (rdL s).1 = [] ∧ (rdL s).2.1 = 0 := rdA_err _ _ _ _ h
/-- no string that is so short reaches the limit -/
theorem rdA_lim : ∀ (f : Nat) (acc : List Int) (at_ : Nat) (r : List UInt8), acc.length + r.length ≤ 20000 → (rdA f acc at_ r).2.2 ≠ 4
  | 0, acc, at_, r, h => by simp [rdA]
  | f + 1, acc, at_, [], h => by simp [rdA]
  | f + 1, acc, at_, c :: t, h => by
    rw [rdA]
    split
    · simp
    · split
      · simp at h; omega
      · split
        · rename_i h3
          rcases rdI_err (c :: t) with h4 | h4
          · omega
          · simp only; omega
        · rename_i h3
          have := rdI_size (r := c :: t) (by omega)
          exact rdA_lim f _ _ _ (by simp at h ⊢; omega)

end Go.Proofs.YtpdmcikegcknlaaDoor
