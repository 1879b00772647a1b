/- What reading an integer yields: the plain function 'rdI'. No program here. -/
import Derived.Test.YtpdmcikegcknlaaDoorMag
namespace Go.Proofs.YtpdmcikegcknlaaDoor

/-- the number that bytes are in base 256 -/
def val (l : List UInt8) : Nat := l.foldl (fun n b => n * 256 + b.toNat) 0
theorem val_snoc (l : List UInt8) (b : UInt8) : val (l ++ [b]) = val l * 256 + b.toNat := by simp [val]
theorem val_nil : val [] = 0 := rfl

/-- does a list of bytes begin with a zero -/
def lead : List UInt8 → Bool
  | [] => false
  | b :: _ => b == 0

theorem snoc_induct {P : List UInt8 → Prop} (h0 : P []) (h1 : ∀ l b, P l → P (l ++ [b])) (l : List UInt8) : P l := by
  have h : ∀ r : List UInt8, P r.reverse := by
    intro r
    induction r with
    | nil => simpa using h0
    | cons b r ih => simpa using h1 _ b ih
  have := h l.reverse
  simpa using this

theorem val_lt (l : List UInt8) : val l < 256 ^ l.length := by
  refine snoc_induct (P := fun l => val l < 256 ^ l.length) (by simp [val]) ?_ l
  intro l b ih
  have := b.toNat_lt
  rw [val_snoc]
  simp only [List.length_append, List.length_singleton, Nat.pow_succ]
  omega

theorem val_mag (n : Nat) (h : n < 256 ^ 9) : val (mag n) = n := by
  have aux : ∀ (k n : Nat), n < 256 ^ k → n < 256 ^ 9 → val (mag n) = n := by
    intro k
    induction k with
    | zero => intro n h _; obtain rfl : n = 0 := by simpa using h
              rfl
    | succ k ih =>
      intro n h h9
      by_cases h0 : n = 0
      · subst h0; rfl
      · rw [mag_step n h9 h0, val_snoc, ih (n / 256) (by rw [Nat.div_lt_iff_lt_mul (by omega)]; rw [Nat.pow_succ] at h; exact h) (by omega)]
        simp; omega
  exact aux 9 n h h

theorem lead_app (l : List UInt8) (b : UInt8) (h : l ≠ []) : lead (l ++ [b]) = lead l := by
  cases l with
  | nil => exact absurd rfl h
  | cons c l => rfl

theorem mag_ne (n : Nat) (h9 : n < 256 ^ 9) (h : n ≠ 0) : mag n ≠ [] := by
  rw [mag_step n h9 h]; simp

theorem lead_mag (n : Nat) (h : n < 256 ^ 9) : lead (mag n) = false := by
  have aux : ∀ (k n : Nat), n < 256 ^ k → n < 256 ^ 9 → lead (mag n) = false := by
    intro k
    induction k with
    | zero => intro n h _; obtain rfl : n = 0 := by simpa using h
              rfl
    | succ k ih =>
      intro n h h9
      by_cases h0 : n = 0
      · subst h0; rfl
      · rw [mag_step n h9 h0]
        by_cases h1 : n / 256 = 0
        · rw [h1, mag_zero]
          show (UInt8.ofNat (n % 256) == 0) = false
          rw [beq_eq_false_iff_ne]
          intro e
          have := congrArg UInt8.toNat e
          simp at this
          omega
        · rw [lead_app _ _ (mag_ne _ (by omega) h1)]
          exact ih (n / 256) (by rw [Nat.div_lt_iff_lt_mul (by omega)]; rw [Nat.pow_succ] at h; exact h) (by omega)
  exact aux 9 n h h

theorem mag_val (l : List UInt8) (h8 : l.length ≤ 8) (h : lead l = false) : mag (val l) = l := by
  have aux : ∀ l : List UInt8, l.length ≤ 8 → lead l = false → mag (val l) = l ∧ (l ≠ [] → val l ≠ 0) := by
    intro l
    refine snoc_induct (P := fun l => l.length ≤ 8 → lead l = false → mag (val l) = l ∧ (l ≠ [] → val l ≠ 0)) ?_ ?_ l
    · intro _ _; exact ⟨rfl, fun h => absurd rfl h⟩
    · intro l b ih h8 hl
      have hb := b.toNat_lt
      have hv : val (l ++ [b]) < 256 ^ 9 := by
        have := val_lt (l ++ [b])
        have h2 : 256 ^ (l ++ [b]).length ≤ 256 ^ 8 := Nat.pow_le_pow_right (by omega) h8
        omega
      have hlen : l.length ≤ 8 := by simp at h8; omega
      have hne : val (l ++ [b]) ≠ 0 := by
        rw [val_snoc]
        by_cases hnil : l = []
        · subst hnil
          simp [lead] at hl
          intro e
          apply hl
          apply UInt8.toNat_inj.1
          simpa [val] using e
        · have := (ih hlen (by rw [lead_app _ _ hnil] at hl; exact hl)).2 hnil
          omega
      refine ⟨?_, fun _ => hne⟩
      rw [mag_step _ hv hne]
      have e1 : val (l ++ [b]) / 256 = val l := by rw [val_snoc]; omega
      have e2 : UInt8.ofNat (val (l ++ [b]) % 256) = b := by
        rw [val_snoc]
        apply UInt8.toNat_inj.1
        simp
      rw [e1, e2]
      by_cases hnil : l = []
      · subst hnil; rfl
      · rw [(ih hlen (by rw [lead_app _ _ hnil] at hl; exact hl)).1]
  exact (aux l h8 h).1

/-- the bytes behind the head, as digits -/
def dg (neg : Bool) (l : List UInt8) : List UInt8 := if neg then l.map (fun b => 255 - b) else l
theorem dg_len (neg : Bool) (l : List UInt8) : (dg neg l).length = l.length := by unfold dg; split <;> simp

/-- the number with these digits, or an error: ErrDecode is 12 -/
def rdB (neg : Bool) (d : List UInt8) : Int × Nat × Int :=
  if lead d = true ∨ 4611686018427387904 < val d ∨ (neg = true ∧ 4611686018427387904 ≤ val d) then (0, 0, 12)
  else (if neg then -(val d : Int) - 1 else (val d : Int), 1 + d.length, 0)

/-- reading an integer: its value, the size of its encoding, and 0; or an error: ErrShort is 11 -/
def rdI : List UInt8 → Int × Nat × Int
  | [] => (0, 0, 11)
  | h :: t =>
    if h.toNat < 119 ∨ 136 < h.toNat then (0, 0, 12)
    else
      let neg := decide (h.toNat < 128)
      let k := if neg then 127 - h.toNat else h.toNat - 128
      if t.length < k then (0, 0, 11) else rdB neg (dg neg (t.take k))


theorem sub_sub (b : UInt8) : 255 - (255 - b) = b := by
  apply UInt8.toNat_inj.1
  have h := b.toNat_lt
  have h1 : (255 - b : UInt8).toNat = 255 - b.toNat := by
    rw [UInt8.toNat_sub_of_le]
    · rfl
    · rw [UInt8.le_iff_toNat_le]; show b.toNat ≤ 255; omega
  rw [UInt8.toNat_sub_of_le]
  · rw [h1]; show 255 - (255 - b.toNat) = _; omega
  · rw [UInt8.le_iff_toNat_le, h1]; show _ ≤ 255; omega
theorem dg_dg (neg : Bool) (l : List UInt8) : dg neg (dg neg l) = l := by
  unfold dg
  cases neg
  · rfl
  · simp only [if_true, List.map_map]
    conv => rhs; rw [← List.map_id l]
    apply List.map_congr_left
    intro b _
    exact sub_sub b
theorem val_lt8 {d : List UInt8} (h : d.length ≤ 8) : val d < 256 ^ 8 := Nat.lt_of_lt_of_le (val_lt d) (Nat.pow_le_pow_right (by omega) h)

/-- the number that rdB yields -/
def outOf (neg : Bool) (d : List UInt8) : Int := if neg then -(val d : Int) - 1 else (val d : Int)
theorem enc_out (neg : Bool) (d : List UInt8) : enc (outOf neg d) = (if neg then headN (mag (val d)).length else headP (mag (val d)).length) :: dg neg (mag (val d)) := by
  unfold outOf dg
  cases neg
  · simp only [Bool.false_eq_true, if_false]
    rw [enc, if_pos (by omega)]
    simp
  · simp only [if_true]
    rw [enc, if_neg (by omega)]
    rw [show (-(-(val d : Int) - 1) - 1).toNat = val d by omega]

/-- the shortest form is just what has no leading zero -/
theorem enc_iff (neg : Bool) (h : UInt8) (c : List UInt8) (hc : c.length ≤ 8) (hh : h = if neg then headN c.length else headP c.length) :
    (enc (outOf neg (dg neg c)) = h :: c) ↔ lead (dg neg c) = false := by
  have h8 : (dg neg c).length ≤ 8 := by rw [dg_len]; exact hc
  have hv := val_lt8 h8
  rw [enc_out]
  constructor
  · intro e
    have e2 := (List.cons.inj e).2
    have e3 : mag (val (dg neg c)) = dg neg c := by
      have := congrArg (dg neg) e2
      rw [dg_dg] at this
      exact this
    rw [← e3]
    exact lead_mag _ (by omega)
  · intro e
    rw [mag_val _ h8 e, dg_dg, dg_len, hh]

theorem rdI_cons (h : UInt8) (t : List UInt8) : rdI (h :: t) =
    if h.toNat < 119 ∨ 136 < h.toNat then (0, 0, 12)
    else if t.length < (if decide (h.toNat < 128) = true then 127 - h.toNat else h.toNat - 128) then (0, 0, 11)
    else rdB (decide (h.toNat < 128)) (dg (decide (h.toNat < 128)) (t.take (if decide (h.toNat < 128) = true then 127 - h.toNat else h.toNat - 128))) := rfl

/-- reading what was written -/
theorem rdI_head (h : UInt8) (t : List UInt8) (neg : Bool) (k : Nat) (hk : k ≤ 8) (hh : h = if neg then headN k else headP k) :
    rdI (h :: t) = if t.length < k then (0, 0, 11) else rdB neg (dg neg (t.take k)) := by
  have hn : h.toNat = if neg then 127 - k else 128 + k := by
    rw [hh]; cases neg
    · exact headP_nat hk
    · exact headN_nat hk
  rw [rdI_cons]
  cases neg
  · simp only [Bool.false_eq_true, if_false] at hn
    rw [if_neg (show ¬ (h.toNat < 119 ∨ 136 < h.toNat) by omega)]
    have hd : decide (h.toNat < 128) = false := by simp; omega
    simp only [hd, Bool.false_eq_true, if_false]
    rw [show h.toNat - 128 = k by omega]
  · simp only [if_true] at hn
    rw [if_neg (show ¬ (h.toNat < 119 ∨ 136 < h.toNat) by omega)]
    have hd : decide (h.toNat < 128) = true := by simp; omega
    simp only [hd, if_true]
    rw [show 127 - h.toNat = k by omega]

theorem rdI_enc (n : Int) (h1 : -4611686018427387904 ≤ n) (h2 : n ≤ 4611686018427387904) (r : List UInt8) : rdI (enc n ++ r) = (n, (enc n).length, 0) := by
  unfold enc
  by_cases h : 0 ≤ n
  · rw [if_pos h]
    have hl := mag_len n.toNat (by omega)
    have hv := val_mag n.toNat (by omega)
    rw [List.cons_append, rdI_head (headP (mag n.toNat).length) _ false (mag n.toNat).length hl rfl, if_neg (by simp), List.take_left']
    · unfold rdB dg
      simp only [Bool.false_eq_true, if_false, hv, lead_mag _ (show n.toNat < 256 ^ 9 by omega), false_and, or_false, false_or]
      rw [if_neg (by omega)]
      simp; omega
    · rfl
  · rw [if_neg h]
    have hl := mag_len (-n - 1).toNat (by omega)
    have hv := val_mag (-n - 1).toNat (by omega)
    rw [List.cons_append, rdI_head (headN (mag (-n - 1).toNat).length) _ true (mag (-n - 1).toNat).length hl rfl, if_neg (by simp), List.take_left']
    · rw [show (mag (-n - 1).toNat).map (fun b => 255 - b) = dg true (mag (-n - 1).toNat) from rfl, dg_dg]
      unfold rdB
      simp only [if_true, hv, lead_mag _ (show (-n - 1).toNat < 256 ^ 9 by omega), true_and, Bool.false_eq_true, false_or]
      rw [if_neg (by omega)]
      simp [dg_len]; omega
    · simp

/-- whatever is read is the encoding of the result -/
theorem rdI_ok (r : List UInt8) (n : Int) (k : Nat) (h : rdI r = (n, k, 0)) : -4611686018427387904 ≤ n ∧ n ≤ 4611686018427387904 ∧ k ≤ r.length ∧ r.take k = enc n ∧ (enc n).length = k := by
  cases r with
  | nil => simp [rdI] at h
  | cons c t =>
    by_cases hc : c.toNat < 119 ∨ 136 < c.toNat
    · simp [rdI, hc] at h
    · obtain ⟨neg, j, hj, hh⟩ : ∃ (neg : Bool) (j : Nat), j ≤ 8 ∧ c = if neg then headN j else headP j := by
        by_cases h1 : c.toNat < 128
        · refine ⟨true, 127 - c.toNat, by omega, UInt8.toNat_inj.1 ?_⟩
          rw [if_pos rfl, headN_nat (by omega)]; omega
        · refine ⟨false, c.toNat - 128, by omega, UInt8.toNat_inj.1 ?_⟩
          rw [if_neg (by simp), headP_nat (by omega)]; omega
      rw [rdI_head c t neg j hj hh] at h
      by_cases ht : t.length < j
      · rw [if_pos ht] at h; simp at h
      · rw [if_neg ht] at h
        have hlen : (t.take j).length = j := by simp; omega
        have hE := enc_iff neg c (t.take j) (by omega) (by rw [hlen]; exact hh)
        generalize hd : dg neg (t.take j) = d at *
        have hdl : d.length = j := by rw [← hd, dg_len, hlen]
        unfold rdB at h
        by_cases hb : lead d = true ∨ 4611686018427387904 < val d ∨ (neg = true ∧ 4611686018427387904 ≤ val d)
        · rw [if_pos hb] at h; simp at h
        · rw [if_neg hb] at h
          have hl : lead d = false := by
            cases hld : lead d
            · rfl
            · exact absurd (Or.inl hld) hb
          have hn : n = outOf neg d := by unfold outOf; exact (congrArg Prod.fst h).symm
          have hk : k = 1 + d.length := (congrArg (fun x => x.2.1) h).symm
          have he := hE.2 hl
          rw [← hn] at he
          refine ⟨?_, ?_, ?_, ?_, ?_⟩
          · rw [hn]; unfold outOf; cases neg
            · simp only [Bool.false_eq_true, if_false]; omega
            · simp only [if_true]; simp at hb; omega
          · rw [hn]; unfold outOf; cases neg
            · simp only [Bool.false_eq_true, if_false]; simp at hb; omega
            · simp only [if_true]; omega
          · simp; omega
          · rw [he, hk, hdl, Nat.add_comm]; rfl
          · rw [he]; simp; omega
theorem rdB_err (neg : Bool) (d : List UInt8) : (rdB neg d).2.2 = 0 ∨ ((rdB neg d).1 = 0 ∧ (rdB neg d).2.1 = 0 ∧ ((rdB neg d).2.2 = 11 ∨ (rdB neg d).2.2 = 12)) := by
  by_cases hb : lead d = true ∨ 4611686018427387904 < val d ∨ (neg = true ∧ 4611686018427387904 ≤ val d)
  · rw [rdB, if_pos hb]; exact Or.inr ⟨rfl, rfl, Or.inr rfl⟩
  · rw [rdB, if_neg hb]; exact Or.inl rfl
theorem rdI_err (r : List UInt8) : (rdI r).2.2 = 0 ∨ ((rdI r).1 = 0 ∧ (rdI r).2.1 = 0 ∧ ((rdI r).2.2 = 11 ∨ (rdI r).2.2 = 12)) := by
  cases r with
  | nil => simp [rdI]
  | cons c t =>
    rw [rdI_cons]
    generalize decide (c.toNat < 128) = neg
    by_cases h1 : c.toNat < 119 ∨ 136 < c.toNat
    · rw [if_pos h1]; simp
    · rw [if_neg h1]
      by_cases h2 : t.length < (if neg = true then 127 - c.toNat else c.toNat - 128)
      · rw [if_pos h2]; simp
      · rw [if_neg h2]
        exact rdB_err _ _

end Go.Proofs.YtpdmcikegcknlaaDoor
