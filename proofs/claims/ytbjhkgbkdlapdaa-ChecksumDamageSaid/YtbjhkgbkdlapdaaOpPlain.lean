/- What Open answers at frames, beginnings of frames, damaged frames. -/
import Derived.Test.YtbjhkgbkdlapdaaOpen2
import Derived.Test.YtbjhkgbkdlapdaaCkPlain
namespace Go.Proofs.Ytbjhkgbkdlapdaa
open Go.RowKit
set_option linter.unusedVariables false

theorem be4_inj {a b : Int} (ha : 0 ≤ a ∧ a < 4294967296) (hb : 0 ≤ b ∧ b < 4294967296) (h : be4 a = be4 b) : a = b := by
  unfold be4 at h
  simp only [List.cons.injEq, and_true] at h
  obtain ⟨h1, h2, h3, h4⟩ := h
  have e1 := byteAt_int a 16777216 (by omega)
  have e2 := byteAt_int a 65536 (by omega)
  have e3 := byteAt_int a 256 (by omega)
  have e4 := byteAt_int a 1 (by omega)
  rw [h1, byteAt_int b 16777216 (by omega)] at e1
  rw [h2, byteAt_int b 65536 (by omega)] at e2
  rw [h3, byteAt_int b 256 (by omega)] at e3
  rw [h4, byteAt_int b 1 (by omega)] at e4
  omega
theorem enc_len9 (l : List UInt8) (h : l.length ≤ 100000) : (enc l.length).length ≤ 9 := enc_len l.length (by omega) (by omega)
theorem frame_len (l : List UInt8) : (frame l).length = (enc l.length).length + l.length + 4 := by
  simp [frame, be4_len]; omega
theorem rdI_at (l r : List UInt8) (h : l.length ≤ 100000) : rdI (enc l.length ++ r) = ((l.length : Int), (enc l.length).length, 0) := rdI_enc l.length (by omega) (by omega) r

theorem opn_gen (l q r : List UInt8) (h : l.length ≤ 100000) (hq : q.length = 4) :
    opn (enc l.length ++ (l ++ (q ++ r))) = if q = be4 (ck (enc l.length ++ l)) then (l, (enc l.length).length + l.length + 4, 0) else ([], 0, 13) := by
  have h1 := rdI_at l (l ++ (q ++ r)) h
  have e1 : (enc l.length ++ (l ++ (q ++ r))).take ((enc l.length).length + l.length) = enc l.length ++ l := by
    rw [← List.append_assoc]
    exact List.take_left' (by simp)
  have e2 : ((enc l.length ++ (l ++ (q ++ r))).take ((enc l.length).length + l.length + 4)).drop ((enc l.length).length + l.length) = q := by
    have e3 : (enc l.length ++ (l ++ (q ++ r))).take ((enc l.length).length + l.length + 4) = (enc l.length ++ l) ++ q := by
      rw [← List.append_assoc, ← List.append_assoc]
      exact List.take_left' (by simp [hq]; omega)
    rw [e3]
    exact List.drop_left' (by simp)
  unfold opn
  rw [h1]
  simp only [Int.toNat_natCast, e1, e2]
  rw [if_neg (by simp), if_neg (by omega), if_neg (by simp [hq]; omega)]
  by_cases hc : q = be4 (ck (enc l.length ++ l))
  · rw [if_neg (by simp [hc]), if_pos hc]
    simp
  · rw [if_pos hc, if_neg hc]

theorem opn_frame (l r : List UInt8) (h : l.length ≤ 100000) : opn (frame l ++ r) = (l, (frame l).length, 0) := by
  have := opn_gen l (be4 (ck (enc l.length ++ l))) r h (be4_len _)
  rw [if_pos rfl] at this
  rw [frame_len, ← this]
  simp [frame]

theorem opn_short (l : List UInt8) (m : Nat) (h : l.length ≤ 100000) (hm : m < (frame l).length) : opn ((frame l).take m) = ([], 0, 11) := by
  rw [frame_len] at hm
  have h9 := enc_len9 l h
  by_cases hk : m < (enc l.length).length
  · have e : (frame l).take m = (enc l.length).take m := by
      unfold frame
      exact List.take_append_of_le_length (by omega)
    have hr : rdI ((enc l.length).take m) = (0, 0, 11) := by
      unfold enc at hk ⊢
      rw [if_pos (by omega)] at hk ⊢
      cases m with
      | zero => rfl
      | succ m =>
        simp only [List.length_cons, List.take_succ_cons] at hk ⊢
        have h8 := mag_len (l.length : Int).toNat (by omega)
        rw [rdI_head (headP (mag (l.length : Int).toNat).length) _ false (mag (l.length : Int).toNat).length h8 rfl, if_pos (by rw [List.length_take]; omega)]
    rw [e]
    unfold opn
    rw [hr]
    simp
  · have e : (frame l).take m = enc l.length ++ (l ++ be4 (ck (enc l.length ++ l))).take (m - (enc l.length).length) := by
      unfold frame
      rw [List.take_append, List.take_of_length_le (by omega)]
    have hr := rdI_at l ((l ++ be4 (ck (enc l.length ++ l))).take (m - (enc l.length).length)) h
    rw [e]
    unfold opn
    rw [hr]
    simp only [Int.toNat_natCast]
    rw [if_neg (by simp), if_neg (by omega), if_pos (by simp [be4_len]; omega)]

theorem opn_damage (l : List UInt8) (j : Nat) (b : UInt8) (h : l.length ≤ 100000) (hj : j < l.length + 4) (hi : (enc l.length).length + j < (frame l).length) (hb : b ≠ (frame l)[(enc l.length).length + j]) :
    opn ((frame l).set ((enc l.length).length + j) b) = ([], 0, 13) := by
  by_cases hl : j < l.length
  · have e : (frame l).set ((enc l.length).length + j) b = enc (l.set j b).length ++ ((l.set j b) ++ (be4 (ck (enc l.length ++ l)) ++ [])) := by
      unfold frame
      rw [List.set_append_right _ _ (by omega), List.set_append_left _ _ (by omega)]
      simp
    have hv : (frame l)[(enc l.length).length + j] = l[j] := by
      refine Option.some.inj ((List.getElem?_eq_getElem hi).symm.trans ?_)
      unfold frame
      rw [List.getElem?_append_right (by omega), Nat.add_sub_cancel_left, List.getElem?_append_left hl, List.getElem?_eq_getElem hl]
    rw [hv] at hb
    rw [e, opn_gen _ _ _ (by simpa using h) (be4_len _), if_neg]
    intro hc
    have hc := be4_inj (ck_bd _) (ck_bd _) hc
    have hs : enc (l.set j b).length ++ l.set j b = (enc l.length ++ l).set ((enc l.length).length + j) b := by
      rw [List.set_append_right _ _ (by omega)]
      simp
    rw [hs] at hc
    refine ck_byte (enc l.length ++ l) ((enc l.length).length + j) b (by simp; omega) ?_ hc.symm
    rw [List.getElem_append_right (by omega)]
    simpa using hb
  · have e : (frame l).set ((enc l.length).length + j) b = enc l.length ++ (l ++ ((be4 (ck (enc l.length ++ l))).set (j - l.length) b ++ [])) := by
      unfold frame
      rw [List.set_append_right _ _ (by omega), List.set_append_right _ _ (by omega)]
      simp
    have hj4 : j - l.length < (be4 (ck (enc l.length ++ l))).length := by rw [be4_len]; omega
    have hv : (frame l)[(enc l.length).length + j] = (be4 (ck (enc l.length ++ l)))[j - l.length] := by
      refine Option.some.inj ((List.getElem?_eq_getElem hi).symm.trans ?_)
      unfold frame
      rw [List.getElem?_append_right (by omega), Nat.add_sub_cancel_left, List.getElem?_append_right (by omega), List.getElem?_eq_getElem hj4]
    rw [hv] at hb
    rw [e, opn_gen _ _ _ h (by rw [List.length_set, be4_len]), if_neg]
    intro hc
    apply hb
    have := congrArg (fun x => x[j - l.length]?) hc
    simp only [List.getElem?_set_self hj4, List.getElem?_eq_getElem hj4] at this
    exact Option.some.inj this

theorem opn_no (s : List UInt8) (h : (opn s).2.2 ≠ 0) : (opn s).1 = [] ∧ (opn s).2.1 = 0 := by
  unfold opn at h ⊢
  repeat' split
  all_goals simp_all

theorem opn_yes (s : List UInt8) (h : (opn s).2.2 = 0) : (opn s).1.length ≤ 100000 ∧ (opn s).2.1 = (frame (opn s).1).length ∧ (opn s).2.1 ≤ s.length ∧ s.take (opn s).2.1 = frame (opn s).1 := by
  have h0 : (rdI s).2.2 = 0 := by
    by_cases h1 : (rdI s).2.2 = 0
    · exact h1
    · rw [opn, if_pos h1] at h; exact absurd h h1
  by_cases h2 : (rdI s).1 < 0 ∨ 100000 < (rdI s).1
  · rw [opn, if_neg (by simp [h0]), if_pos h2] at h; simp at h
  obtain ⟨n, hn⟩ : ∃ n : Nat, (rdI s).1 = (n : Int) := ⟨(rdI s).1.toNat, by omega⟩
  obtain ⟨k, hk⟩ : ∃ k, (rdI s).2.1 = k := ⟨_, rfl⟩
  have e : rdI s = ((n : Int), k, 0) := by rw [← hn, ← hk, ← h0]
  obtain ⟨b1, b2, b3, b4, b5⟩ := rdI_ok s _ _ e
  have hn' : n ≤ 100000 := by omega
  clear h0 h2 hn hk
  by_cases h3 : s.length < k + n + 4
  · rw [opn, e] at h; simp only [Int.toNat_natCast] at h; rw [if_neg (by simp), if_neg (by omega), if_pos h3] at h; simp at h
  by_cases h4 : (s.take (k + n + 4)).drop (k + n) ≠ be4 (ck (s.take (k + n)))
  · rw [opn, e] at h; simp only [Int.toNat_natCast] at h; rw [if_neg (by simp), if_neg (by omega), if_neg h3, if_pos h4] at h; simp at h
  have hv : opn s = ((s.take (k + n)).drop k, k + n + 4, 0) := by
    rw [opn, e]; simp only [Int.toNat_natCast]; rw [if_neg (by simp), if_neg (by omega), if_neg h3, if_neg h4]
  have hx : ((s.take (k + n)).drop k).length = n := by simp; omega
  have hs : s.take (k + n) = enc n ++ (s.take (k + n)).drop k := by
    rw [← b4]; have := List.take_append_drop k (s.take (k + n)); rw [List.take_take, Nat.min_eq_left (by omega)] at this; exact this.symm
  have hf : frame ((s.take (k + n)).drop k) = s.take (k + n + 4) := by
    unfold frame
    rw [hx, ← List.append_assoc, ← hs]
    rw [← Decidable.not_not.1 h4]
    conv => rhs; rw [← List.take_append_drop (k + n) (s.take (k + n + 4)), List.take_take]
    rw [Nat.min_eq_left (by omega)]
  rw [hv]
  refine ⟨by simp only [hx]; exact hn', ?_, by simp only; omega, hf.symm⟩
  rw [hf]
  simp; omega

end Go.Proofs.Ytbjhkgbkdlapdaa
