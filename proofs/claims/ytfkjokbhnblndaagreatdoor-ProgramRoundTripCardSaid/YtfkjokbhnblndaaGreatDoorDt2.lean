/- What reading an integer yields: the plain function 'rdI'. No program here. Lists of integers: their encoding and their reading, plain. codec.Int and nurseryref01.Int: one plain function, 'enc'. codec.List, nurseryref01.List. Texts: their encoding and their reading, plain. The contracts of checksum.sums' methods, of 'each', and of Sum, Update, Combine, and of the reference's. checksum.bytes, Seal; nurseryref02.bytes, Seal: their contracts. codec.reader: fail, next: their contracts. codec.reader.integer: its contract; codec.ReadInt. Appending to slices of bytes and of integers that the call made: the laws in the form that my walks use. Rows of the call's own beside a block that turns. codec.reader.list, codec.ReadList: the list lies in memory of its own (out of ReadList). codec.reader.text, codec.ReadText. nurseryref01.ReadInt: its contract. checksum.Open and nurseryref02.Open: one plain function, 'opn'. Two arrays of four bytes compared. checksum.Open and nurseryref02.Open: the frame is long enough. The plain law of the checksum: a changed byte, two exchanged bytes. No program here. What Open answers at frames, beginnings of frames, damaged frames. -/
import Derived.Lib.ReplaceLaws
import Derived.WalkKit
import Derived.ProofKit
import Derived.Outline
import Derived.LoopTactic
import Derived.RegionTactic
import Derived.ChangeAlike
import Derived.StillTailTactics
import Derived.Deep.QuietTactic
import Derived.BigQuiet
import Derived.Lib.Hide
import Derived.WalkSpells
import Derived.Lib.SlBytesRow
import Derived.BigRegion
import Derived.Laws.BitsAllLaws
import Derived.Lib.AppendStr
import Derived.Deep.OwnRows
import Derived.Lib.SmallJoins
import Derived.Deep.LoopGhost
import Derived.Deep.Onto
import Derived.Laws.StructEq
import Derived.Deep.MidRow
import Derived.Test.YtfkjokbhnblndaaGreatDoorMag
import Derived.Test.YtfkjokbhnblndaaGreatDoorInteger
import Derived.Test.YtfkjokbhnblndaaGreatDoorBuild
import Derived.Test.YtfkjokbhnblndaaGreatDoorISl
import Derived.Test.YtfkjokbhnblndaaGreatDoorBase
import Derived.Test.YtfkjokbhnblndaaGreatDoorRows
import Derived.Test.YtfkjokbhnblndaaGreatDoorRegion
import Derived.Test.YtfkjokbhnblndaaGreatDoorRel

namespace Go.Proofs.YtfkjokbhnblndaaGreatDoor

/-- the number that bytes are in base 256 -/
def val (l : List UInt8) : Nat := l.foldl (fun n b => n * 256 + b.toNat) 0
theorem val_snoc (l : List UInt8) (b : UInt8) : val (l ++ [b]) = val l * 256 + b.toNat := by simp [val]
/-- does a list of bytes begin with a zero -/
def lead : List UInt8 → Bool
  | [] => false
  | b :: _ => b == 0

theorem snoc_induct {P : List UInt8 → Prop} (h0 : P []) (h1 : ∀ l b, P l → P (l ++ [b])) (l : List UInt8) : P l := by
  have h : ∀ r : List UInt8, P r.reverse := by
    intro r
    induction r with
    | nil => simpa using h0
    | cons b r ih => simpa using h1 _ b ih
  have := h l.reverse
  simpa using this

theorem val_lt (l : List UInt8) : val l < 256 ^ l.length := by
  refine snoc_induct (P := fun l => val l < 256 ^ l.length) (by simp [val]) ?_ l
  intro l b ih
  have := b.toNat_lt
  rw [val_snoc]
  simp only [List.length_append, List.length_singleton, Nat.pow_succ]
  omega

theorem val_mag (n : Nat) (h : n < 256 ^ 9) : val (mag n) = n := by
  have aux : ∀ (k n : Nat), n < 256 ^ k → n < 256 ^ 9 → val (mag n) = n := by
    intro k
    induction k with
    | zero => intro n h _; obtain rfl : n = 0 := by simpa using h
              rfl
    | succ k ih =>
      intro n h h9
      by_cases h0 : n = 0
      · subst h0; rfl
      · rw [mag_step n h9 h0, val_snoc, ih (n / 256) (by rw [Nat.div_lt_iff_lt_mul (by omega)]; rw [Nat.pow_succ] at h; exact h) (by omega)]
        simp; omega
  exact aux 9 n h h

theorem lead_app (l : List UInt8) (b : UInt8) (h : l ≠ []) : lead (l ++ [b]) = lead l := by
  cases l with
  | nil => exact absurd rfl h
  | cons c l => rfl

theorem mag_ne (n : Nat) (h9 : n < 256 ^ 9) (h : n ≠ 0) : mag n ≠ [] := by
  rw [mag_step n h9 h]; simp

theorem lead_mag (n : Nat) (h : n < 256 ^ 9) : lead (mag n) = false := by
  have aux : ∀ (k n : Nat), n < 256 ^ k → n < 256 ^ 9 → lead (mag n) = false := by
    intro k
    induction k with
    | zero => intro n h _; obtain rfl : n = 0 := by simpa using h
              rfl
    | succ k ih =>
      intro n h h9
      by_cases h0 : n = 0
      · subst h0; rfl
      · rw [mag_step n h9 h0]
        by_cases h1 : n / 256 = 0
        · rw [h1, mag_zero]
          show (UInt8.ofNat (n % 256) == 0) = false
          rw [beq_eq_false_iff_ne]
          intro e
          have := congrArg UInt8.toNat e
          simp at this
          omega
        · rw [lead_app _ _ (mag_ne _ (by omega) h1)]
          exact ih (n / 256) (by rw [Nat.div_lt_iff_lt_mul (by omega)]; rw [Nat.pow_succ] at h; exact h) (by omega)
  exact aux 9 n h h

theorem mag_val (l : List UInt8) (h8 : l.length ≤ 8) (h : lead l = false) : mag (val l) = l := by
  have aux : ∀ l : List UInt8, l.length ≤ 8 → lead l = false → mag (val l) = l ∧ (l ≠ [] → val l ≠ 0) := by
    intro l
    refine snoc_induct (P := fun l => l.length ≤ 8 → lead l = false → mag (val l) = l ∧ (l ≠ [] → val l ≠ 0)) ?_ ?_ l
    · intro _ _; exact ⟨rfl, fun h => absurd rfl h⟩
    · intro l b ih h8 hl
      have hb := b.toNat_lt
      have hv : val (l ++ [b]) < 256 ^ 9 := by
        have := val_lt (l ++ [b])
        have h2 : 256 ^ (l ++ [b]).length ≤ 256 ^ 8 := Nat.pow_le_pow_right (by omega) h8
        omega
      have hlen : l.length ≤ 8 := by simp at h8; omega
      have hne : val (l ++ [b]) ≠ 0 := by
        rw [val_snoc]
        by_cases hnil : l = []
        · subst hnil
          simp [lead] at hl
          intro e
          apply hl
          apply UInt8.toNat_inj.1
          simpa [val] using e
        · have := (ih hlen (by rw [lead_app _ _ hnil] at hl; exact hl)).2 hnil
          omega
      refine ⟨?_, fun _ => hne⟩
      rw [mag_step _ hv hne]
      have e1 : val (l ++ [b]) / 256 = val l := by rw [val_snoc]; omega
      have e2 : UInt8.ofNat (val (l ++ [b]) % 256) = b := by
        rw [val_snoc]
        apply UInt8.toNat_inj.1
        simp
      rw [e1, e2]
      by_cases hnil : l = []
      · subst hnil; rfl
      · rw [(ih hlen (by rw [lead_app _ _ hnil] at hl; exact hl)).1]
  exact (aux l h8 h).1

/-- the bytes behind the head, as digits -/
def dg (neg : Bool) (l : List UInt8) : List UInt8 := if neg then l.map (fun b => 255 - b) else l
theorem dg_len (neg : Bool) (l : List UInt8) : (dg neg l).length = l.length := by unfold dg; split <;> simp

/-- the number with these digits, or an error: ErrDecode is 12 -/
def rdB (neg : Bool) (d : List UInt8) : Int × Nat × Int :=
  if lead d = true ∨ 4611686018427387904 < val d ∨ (neg = true ∧ 4611686018427387904 ≤ val d) then (0, 0, 12)
  else (if neg then -(val d : Int) - 1 else (val d : Int), 1 + d.length, 0)

/-- reading an integer: its value, the size of its encoding, and 0; or an error: ErrShort is 11 -/
def rdI : List UInt8 → Int × Nat × Int
  | [] => (0, 0, 11)
  | h :: t =>
    if h.toNat < 119 ∨ 136 < h.toNat then (0, 0, 12)
    else
      let neg := decide (h.toNat < 128)
      let k := if neg then 127 - h.toNat else h.toNat - 128
      if t.length < k then (0, 0, 11) else rdB neg (dg neg (t.take k))


theorem sub_sub (b : UInt8) : 255 - (255 - b) = b := by
  apply UInt8.toNat_inj.1
  have h := b.toNat_lt
  have h1 : (255 - b : UInt8).toNat = 255 - b.toNat := by
    rw [UInt8.toNat_sub_of_le]
    · rfl
    · rw [UInt8.le_iff_toNat_le]; show b.toNat ≤ 255; omega
  rw [UInt8.toNat_sub_of_le]
  · rw [h1]; show 255 - (255 - b.toNat) = _; omega
  · rw [UInt8.le_iff_toNat_le, h1]; show _ ≤ 255; omega
theorem dg_dg (neg : Bool) (l : List UInt8) : dg neg (dg neg l) = l := by
  unfold dg
  cases neg
  · rfl
  · simp only [if_true, List.map_map]
    conv => rhs; rw [← List.map_id l]
    apply List.map_congr_left
    intro b _
    exact sub_sub b
theorem val_lt8 {d : List UInt8} (h : d.length ≤ 8) : val d < 256 ^ 8 := Nat.lt_of_lt_of_le (val_lt d) (Nat.pow_le_pow_right (by omega) h)

/-- the number that rdB yields -/
def outOf (neg : Bool) (d : List UInt8) : Int := if neg then -(val d : Int) - 1 else (val d : Int)
theorem enc_out (neg : Bool) (d : List UInt8) : enc (outOf neg d) = (if neg then headN (mag (val d)).length else headP (mag (val d)).length) :: dg neg (mag (val d)) := by
  unfold outOf dg
  cases neg
  · simp only [Bool.false_eq_true, if_false]
    rw [enc, if_pos (by omega)]
    simp
  · simp only [if_true]
    rw [enc, if_neg (by omega)]
    rw [show (-(-(val d : Int) - 1) - 1).toNat = val d by omega]

/-- the shortest form is just what has no leading zero -/
theorem enc_iff (neg : Bool) (h : UInt8) (c : List UInt8) (hc : c.length ≤ 8) (hh : h = if neg then headN c.length else headP c.length) :
    (enc (outOf neg (dg neg c)) = h :: c) ↔ lead (dg neg c) = false := by
  have h8 : (dg neg c).length ≤ 8 := by rw [dg_len]; exact hc
  have hv := val_lt8 h8
  rw [enc_out]
  constructor
  · intro e
    have e2 := (List.cons.inj e).2
    have e3 : mag (val (dg neg c)) = dg neg c := by
      have := congrArg (dg neg) e2
      rw [dg_dg] at this
      exact this
    rw [← e3]
    exact lead_mag _ (by omega)
  · intro e
    rw [mag_val _ h8 e, dg_dg, dg_len, hh]

theorem rdI_cons (h : UInt8) (t : List UInt8) : rdI (h :: t) =
    if h.toNat < 119 ∨ 136 < h.toNat then (0, 0, 12)
    else if t.length < (if decide (h.toNat < 128) = true then 127 - h.toNat else h.toNat - 128) then (0, 0, 11)
    else rdB (decide (h.toNat < 128)) (dg (decide (h.toNat < 128)) (t.take (if decide (h.toNat < 128) = true then 127 - h.toNat else h.toNat - 128))) := rfl

/-- reading what was written -/
theorem rdI_head (h : UInt8) (t : List UInt8) (neg : Bool) (k : Nat) (hk : k ≤ 8) (hh : h = if neg then headN k else headP k) :
    rdI (h :: t) = if t.length < k then (0, 0, 11) else rdB neg (dg neg (t.take k)) := by
  have hn : h.toNat = if neg then 127 - k else 128 + k := by
    rw [hh]; cases neg
    · exact headP_nat hk
    · exact headN_nat hk
  rw [rdI_cons]
  cases neg
  · simp only [Bool.false_eq_true, if_false] at hn
    rw [if_neg (show ¬ (h.toNat < 119 ∨ 136 < h.toNat) by omega)]
    have hd : decide (h.toNat < 128) = false := by simp; omega
    simp only [hd, Bool.false_eq_true, if_false]
    rw [show h.toNat - 128 = k by omega]
  · simp only [if_true] at hn
    rw [if_neg (show ¬ (h.toNat < 119 ∨ 136 < h.toNat) by omega)]
    have hd : decide (h.toNat < 128) = true := by simp; omega
    simp only [hd, if_true]
    rw [show 127 - h.toNat = k by omega]

theorem rdI_enc (n : Int) (h1 : -4611686018427387904 ≤ n) (h2 : n ≤ 4611686018427387904) (r : List UInt8) : rdI (enc n ++ r) = (n, (enc n).length, 0) := by
  unfold enc
  by_cases h : 0 ≤ n
  · rw [if_pos h]
    have hl := mag_len n.toNat (by omega)
    have hv := val_mag n.toNat (by omega)
    rw [List.cons_append, rdI_head (headP (mag n.toNat).length) _ false (mag n.toNat).length hl rfl, if_neg (by simp), List.take_left']
    · unfold rdB dg
      simp only [Bool.false_eq_true, if_false, hv, lead_mag _ (show n.toNat < 256 ^ 9 by omega), false_and, or_false, false_or]
      rw [if_neg (by omega)]
      simp; omega
    · rfl
  · rw [if_neg h]
    have hl := mag_len (-n - 1).toNat (by omega)
    have hv := val_mag (-n - 1).toNat (by omega)
    rw [List.cons_append, rdI_head (headN (mag (-n - 1).toNat).length) _ true (mag (-n - 1).toNat).length hl rfl, if_neg (by simp), List.take_left']
    · rw [show (mag (-n - 1).toNat).map (fun b => 255 - b) = dg true (mag (-n - 1).toNat) from rfl, dg_dg]
      unfold rdB
      simp only [if_true, hv, lead_mag _ (show (-n - 1).toNat < 256 ^ 9 by omega), true_and, Bool.false_eq_true, false_or]
      rw [if_neg (by omega)]
      simp [dg_len]; omega
    · simp

/-- whatever is read is the encoding of the result -/
theorem rdI_ok (r : List UInt8) (n : Int) (k : Nat) (h : rdI r = (n, k, 0)) : -4611686018427387904 ≤ n ∧ n ≤ 4611686018427387904 ∧ k ≤ r.length ∧ r.take k = enc n ∧ (enc n).length = k := by
  cases r with
  | nil => simp [rdI] at h
  | cons c t =>
    by_cases hc : c.toNat < 119 ∨ 136 < c.toNat
    · simp [rdI, hc] at h
    · obtain ⟨neg, j, hj, hh⟩ : ∃ (neg : Bool) (j : Nat), j ≤ 8 ∧ c = if neg then headN j else headP j := by
        by_cases h1 : c.toNat < 128
        · refine ⟨true, 127 - c.toNat, by omega, UInt8.toNat_inj.1 ?_⟩
          rw [if_pos rfl, headN_nat (by omega)]; omega
        · refine ⟨false, c.toNat - 128, by omega, UInt8.toNat_inj.1 ?_⟩
          rw [if_neg (by simp), headP_nat (by omega)]; omega
      rw [rdI_head c t neg j hj hh] at h
      by_cases ht : t.length < j
      · rw [if_pos ht] at h; simp at h
      · rw [if_neg ht] at h
        have hlen : (t.take j).length = j := by simp; omega
        have hE := enc_iff neg c (t.take j) (by omega) (by rw [hlen]; exact hh)
        generalize hd : dg neg (t.take j) = d at *
        have hdl : d.length = j := by rw [← hd, dg_len, hlen]
        unfold rdB at h
        by_cases hb : lead d = true ∨ 4611686018427387904 < val d ∨ (neg = true ∧ 4611686018427387904 ≤ val d)
        · rw [if_pos hb] at h; simp at h
        · rw [if_neg hb] at h
          have hl : lead d = false := by
            cases hld : lead d
            · rfl
            · exact absurd (Or.inl hld) hb
          have hn : n = outOf neg d := by unfold outOf; exact (congrArg Prod.fst h).symm
          have hk : k = 1 + d.length := (congrArg (fun x => x.2.1) h).symm
          have he := hE.2 hl
          rw [← hn] at he
          refine ⟨?_, ?_, ?_, ?_, ?_⟩
          · rw [hn]; unfold outOf; cases neg
            · simp only [Bool.false_eq_true, if_false]; omega
            · simp only [if_true]; simp at hb; omega
          · rw [hn]; unfold outOf; cases neg
            · simp only [Bool.false_eq_true, if_false]; simp at hb; omega
            · simp only [if_true]; omega
          · simp; omega
          · rw [he, hk, hdl, Nat.add_comm]; rfl
          · rw [he]; simp; omega
theorem rdB_err (neg : Bool) (d : List UInt8) : (rdB neg d).2.2 = 0 ∨ ((rdB neg d).1 = 0 ∧ (rdB neg d).2.1 = 0 ∧ ((rdB neg d).2.2 = 11 ∨ (rdB neg d).2.2 = 12)) := by
  by_cases hb : lead d = true ∨ 4611686018427387904 < val d ∨ (neg = true ∧ 4611686018427387904 ≤ val d)
  · rw [rdB, if_pos hb]; exact Or.inr ⟨rfl, rfl, Or.inr rfl⟩
  · rw [rdB, if_neg hb]; exact Or.inl rfl
theorem rdI_err (r : List UInt8) : (rdI r).2.2 = 0 ∨ ((rdI r).1 = 0 ∧ (rdI r).2.1 = 0 ∧ ((rdI r).2.2 = 11 ∨ (rdI r).2.2 = 12)) := by
  cases r with
  | nil => simp [rdI]
  | cons c t =>
    rw [rdI_cons]
    generalize decide (c.toNat < 128) = neg
    by_cases h1 : c.toNat < 119 ∨ 136 < c.toNat
    · rw [if_pos h1]; simp
    · rw [if_neg h1]
      by_cases h2 : t.length < (if neg = true then 127 - c.toNat else c.toNat - 128)
      · rw [if_pos h2]; simp
      · rw [if_neg h2]
        exact rdB_err _ _

end Go.Proofs.YtfkjokbhnblndaaGreatDoor

namespace Go.Proofs.YtfkjokbhnblndaaGreatDoor

def inR (n : Int) : Bool := decide (-4611686018427387904 ≤ n) && decide (n ≤ 4611686018427387904)
theorem inR_iff (n : Int) : inR n = true ↔ -4611686018427387904 ≤ n ∧ n ≤ 4611686018427387904 := by simp [inR]
def encs (l : List Int) : List UInt8 := l.flatMap enc
def encL (l : List Int) : List UInt8 := encs l ++ [1]
theorem encs_cons (n : Int) (l : List Int) : encs (n :: l) = enc n ++ encs l := by simp [encs]
theorem encs_snoc (l : List Int) (n : Int) : encs (l ++ [n]) = encs l ++ enc n := by simp [encs]
/-- what List answers -/
def lsS (l : List Int) : List UInt8 := if 20000 < l.length then [] else if l.all inR = true then encL l else []
def lsE (l : List Int) : Int := if 20000 < l.length then 4 else if l.all inR = true then 0 else 2

theorem enc_pos (n : Int) : 1 ≤ (enc n).length := by unfold enc; split <;> simp
theorem enc_le9 (n : Int) (h1 : -4611686018427387904 ≤ n) (h2 : n ≤ 4611686018427387904) : (enc n).length ≤ 9 := by
  unfold enc
  split
  · have := mag_len n.toNat (by omega); simp; omega
  · have := mag_len (-n - 1).toNat (by omega); simp only [List.length_cons, List.length_map]; omega
theorem encs_len : ∀ (l : List Int), l.all inR = true → (encs l).length ≤ 9 * l.length
  | [], _ => by simp [encs]
  | n :: l, h => by
    rw [List.all_cons, Bool.and_eq_true, inR_iff] at h
    have := encs_len l h.2
    have := enc_le9 n h.1.1 h.1.2
    rw [encs_cons]; simp; omega
/-- the head of an encoding is not the end's mark -/
theorem enc_head (n : Int) (h1 : -4611686018427387904 ≤ n) (h2 : n ≤ 4611686018427387904) : ∃ c t, enc n = c :: t ∧ c ≠ 1 := by
  unfold enc
  split
  · have h := mag_len n.toNat (by omega)
    exact ⟨_, _, rfl, fun e => by have := headP_nat h; rw [e] at this; have h1 : (1 : UInt8).toNat = 1 := rfl; omega⟩
  · have h := mag_len (-n - 1).toNat (by omega)
    refine ⟨_, _, rfl, fun e => ?_⟩
    have := headN_nat h
    rw [e] at this
    have h1 : (1 : UInt8).toNat = 1 := rfl
    omega

/-- reading the elements of a list from the rest r of a string on: acc is what has been read, at_ the bytes that it takes -/
def rdA : Nat → List Int → Nat → List UInt8 → List Int × Nat × Int
  | 0, _, _, _ => ([], 0, 11)
  | _ + 1, _, _, [] => ([], 0, 11)
  | f + 1, acc, at_, c :: t =>
    if c = 1 then (acc, at_ + 1, 0)
    else if acc.length = 20000 then ([], 0, 4)
    else if (rdI (c :: t)).2.2 ≠ 0 then ([], 0, (rdI (c :: t)).2.2)
    else rdA f (acc ++ [(rdI (c :: t)).1]) (at_ + (rdI (c :: t)).2.1) ((c :: t).drop (rdI (c :: t)).2.1)
/-- reading a list -/
def rdL (s : List UInt8) : List Int × Nat × Int := rdA (s.length + 1) [] 0 s

theorem rdI_size {r : List UInt8} (h : (rdI r).2.2 = 0) : 1 ≤ (rdI r).2.1 ∧ (rdI r).2.1 ≤ r.length ∧ inR (rdI r).1 = true ∧ r.take (rdI r).2.1 = enc (rdI r).1 ∧ (enc (rdI r).1).length = (rdI r).2.1 := by
  have := rdI_ok r (rdI r).1 (rdI r).2.1 (by rw [← h])
  have h1 := enc_pos (rdI r).1
  refine ⟨by omega, this.2.2.1, (inR_iff _).2 ⟨this.1, this.2.1⟩, this.2.2.2.1, this.2.2.2.2⟩

theorem rdA_ok : ∀ (f : Nat) (acc : List Int) (at_ : Nat) (r : List UInt8), (rdA f acc at_ r).2.2 = 0 →
    ∃ l, rdA f acc at_ r = (acc ++ l, at_ + (encL l).length, 0) ∧ l.all inR = true ∧ (encL l).length ≤ r.length ∧ r.take (encL l).length = encL l ∧ (acc.length + l.length ≤ 20000 ∨ 20000 < acc.length)
  | 0, acc, at_, r, h => by simp [rdA] at h
  | f + 1, acc, at_, [], h => by simp [rdA] at h
  | f + 1, acc, at_, c :: t, h => by
    rw [rdA] at h ⊢
    split at h
    · rename_i hc
      subst hc
      rw [if_pos rfl]
      exact ⟨[], by simp [encL, encs], rfl, by simp [encL, encs], by simp [encL, encs], by simp; omega⟩
    · rename_i hc
      rw [if_neg hc]
      split at h
      · simp at h
      · rename_i h2
        rw [if_neg h2]
        split at h
        · rename_i h3
          exact absurd h h3
        · rename_i h3
          rw [if_neg h3]
          have h4 : (rdI (c :: t)).2.2 = 0 := by omega
          obtain ⟨p1, p2, p3, p4, p5⟩ := rdI_size h4
          generalize (rdI (c :: t)).1 = n at *
          generalize (rdI (c :: t)).2.1 = k at *
          obtain ⟨l, q1, q2, q3, q4, q5⟩ := rdA_ok f _ _ _ h
          refine ⟨n :: l, ?_, by simp [p3, q2], ?_, ?_, ?_⟩
          · rw [q1]; simp [encL, encs_cons, p5]; omega
          · simp [encL, encs_cons] at q3 ⊢; simp at p2; omega
          · have e : encL (n :: l) = enc n ++ encL l := by simp [encL, encs_cons]
            rw [e, List.length_append, p5, List.take_add, p4, q4]
          · simp at q5 ⊢; omega
theorem rdA_err : ∀ (f : Nat) (acc : List Int) (at_ : Nat) (r : List UInt8), (rdA f acc at_ r).2.2 ≠ 0 → (rdA f acc at_ r).1 = [] ∧ (rdA f acc at_ r).2.1 = 0
  | 0, acc, at_, r, h => by simp [rdA]
  | f + 1, acc, at_, [], h => by simp [rdA]
  | f + 1, acc, at_, c :: t, h => by
    rw [rdA] at h ⊢
    split at h
    · simp at h
    · rename_i hc
      rw [if_neg hc]
      split at h
      · rename_i h2; rw [if_pos h2]; exact ⟨rfl, rfl⟩
      · rename_i h2
        rw [if_neg h2]
        split at h
        · rename_i h3; rw [if_pos h3]; exact ⟨rfl, rfl⟩
        · rename_i h3; rw [if_neg h3]; exact rdA_err f _ _ _ h
theorem rdA_enc : ∀ (l : List Int) (f : Nat) (acc : List Int) (at_ : Nat) (rest : List UInt8), l.all inR = true → acc.length + l.length ≤ 20000 → l.length < f →
    rdA f acc at_ (encL l ++ rest) = (acc ++ l, at_ + (encL l).length, 0)
  | [], f + 1, acc, at_, rest, _, _, _ => by simp [encL, encs, rdA]
  | n :: l, f + 1, acc, at_, rest, h, h2, h3 => by
    rw [List.all_cons, Bool.and_eq_true, inR_iff] at h
    obtain ⟨c, t, hc, hc1⟩ := enc_head n h.1.1 h.1.2
    have e : encL (n :: l) ++ rest = enc n ++ (encL l ++ rest) := by simp [encL, encs_cons]
    have hr := rdI_enc n h.1.1 h.1.2 (encL l ++ rest)
    rw [e]
    have e2 : enc n ++ (encL l ++ rest) = c :: (t ++ (encL l ++ rest)) := by rw [hc]; rfl
    rw [e2] at hr ⊢
    rw [rdA, if_neg hc1, if_neg (by simp at h2; omega), hr, if_neg (by simp)]
    simp only
    rw [← e2, List.drop_left' rfl, rdA_enc l f _ _ rest h.2 (by simp at h2 ⊢; omega) (by simp at h3; omega)]
    simp [encL, encs_cons]; omega

theorem encs_ge (l : List Int) : l.length ≤ (encs l).length := by
  induction l with
  | nil => simp
  | cons n l ih => rw [encs_cons]; have := enc_pos n; simp; omega
theorem rdL_enc (l : List Int) (rest : List UInt8) (h : l.all inR = true) (h2 : l.length ≤ 20000) : rdL (encL l ++ rest) = (l, (encL l).length, 0) := by
  have := encs_ge l
  unfold rdL
  rw [rdA_enc l _ [] 0 rest h (by simpa using h2) (by simp [encL]; omega)]
  simp
theorem rdL_ok {s : List UInt8} (h : (rdL s).2.2 = 0) : (rdL s).1.all inR = true ∧ (rdL s).2.1 = (encL (rdL s).1).length ∧ (rdL s).2.1 ≤ s.length ∧ s.take (rdL s).2.1 = encL (rdL s).1 ∧ (rdL s).1.length ≤ 20000 := by
  obtain ⟨l, q1, q2, q3, q4, q5⟩ := rdA_ok _ _ _ _ h
  unfold rdL
  rw [q1]
  simp at q5 ⊢
  exact ⟨by simpa using q2, q3, q4, q5⟩
theorem rdL_err {s : List UInt8} (h : (rdL s).2.2 ≠ 0) : (rdL s).1 = [] ∧ (rdL s).2.1 = 0 := rdA_err _ _ _ _ h
end Go.Proofs.YtfkjokbhnblndaaGreatDoor

namespace Go.Proofs.YtfkjokbhnblndaaGreatDoor
open Go.RowKit Go.Shelf
set_option linter.unusedVariables false

theorem integer_any (x : Int) (w : World) (h1 : -4611686018427387904 ≤ x) (h2 : x ≤ 4611686018427387904) : Gives Tryz.prog 96 #[.int .i64 x] w (sV (enc x)) := by
  unfold Gives
  by_cases h : 0 ≤ x
  · refine (callsIn_wide.1 (integer_pos Fence.wide 3 trivial trivial trivial rfl (by omega) x x.toNat (by omega) (by omega) w)).mono ?_
    rintro e w' ⟨rfl, hb⟩
    exact ⟨by rw [enc, if_pos h], hb⟩
  · refine (callsIn_wide.1 (integer_neg Fence.wide 3 trivial trivial trivial rfl (by omega) x (-x - 1).toNat (by omega) (by omega) w)).mono ?_
    rintro e w' ⟨rfl, hb⟩
    exact ⟨by rw [enc, if_neg h], hb⟩

theorem Int_yes (x : Int) (w : World) (h1 : -4611686018427387904 ≤ x) (h2 : x ≤ 4611686018427387904) : Gives Tryz.prog 59 #[.int .i64 x] w (.tuple #[sV (enc x), .int .i64 0]) := by
  unfold Gives
  go_enter Tryz.func59, Tryz.ntmps59
  go_wp2_with (first | (go_at_call 95; go_in) | (go_at_call 96; refine (integer_any _ _ h1 h2).mono ?_; intro w1 hB1))
  go_ret2
  exact ⟨rfl, hB1⟩

theorem Int_no (x : Int) (w : World) (h0 : (Lit.int .i64 x).wf = true) (h : x < -4611686018427387904 ∨ 4611686018427387904 < x) : Gives Tryz.prog 59 #[.int .i64 x] w (.tuple #[sV [], .int .i64 2]) := by
  obtain ⟨hx1, hx2⟩ := i64_bd h0
  clear h0
  unfold Gives
  rcases h with h | h
  · go_enter Tryz.func59, Tryz.ntmps59
    go_wp2
    go_ret2
    exact ⟨rfl, Below.refl _ _⟩
  · have h1 : -4611686018427387904 ≤ x := by omega
    have hd : decide (x ≤ 4611686018427387904) = false := by simp; omega
    go_enter Tryz.func59, Tryz.ntmps59
    go_wp2
    go_ret2
    exact ⟨rfl, Below.refl _ _⟩

/-! the reference -/
/-- a slice of bytes that the call made -/
def RowB (w : World) (base : Nat) (v : Value) (l : List UInt8) : Prop := (∃ g cap, v = .slice (some ⟨g, 0, none⟩) l.length cap) ∧ w.ownsRow base 5 1 v l.length (bsV l)
theorem RowB.lit (w : World) (base : Nat) (l : List UInt8) (hb : base ≤ w.heap.size) (hm : l.length ≤ maxLen) : RowB (w.alloc (.cells (bsV l).toArray 5)) base (.slice (some ⟨w.heap.size, 0, none⟩) l.length l.length) l :=
  ⟨⟨_, _, rfl⟩, World.ownsRow_lit w (bsV l).toArray l.length hb hm (by simp [bsV])⟩

theorem map_take_snoc (l : List UInt8) (f : UInt8 → UInt8) (k : Nat) (h : k < l.length) : (l.take (k + 1)).map f = (l.take k).map f ++ [f l[k]] := by
  rw [List.take_succ_eq_append_getElem h, List.map_append]; rfl

end Go.Proofs.YtfkjokbhnblndaaGreatDoor

namespace Go.Proofs.YtfkjokbhnblndaaGreatDoor
open Go.RowKit
set_option linter.unusedVariables false

theorem all_take_false {l : List Int} {j : Nat} (h : j < l.length) (hb : inR l[j] = false) : l.all inR = false := by
  rw [List.all_eq_false]
  exact ⟨l[j], List.getElem_mem h, by simp [hb]⟩
theorem all_take_succ {l : List Int} {j : Nat} (h : j < l.length) (ha : (l.take j).all inR = true) (hb : inR l[j] = true) : (l.take (j + 1)).all inR = true := by
  rw [List.take_succ_eq_append_getElem h, List.all_append, ha]; simp [hb]
theorem encs_take_succ {l : List Int} {j : Nat} (h : j < l.length) : encs (l.take j) ++ enc l[j] = encs (l.take (j + 1)) := by
  rw [List.take_succ_eq_append_getElem h, encs_snoc]

set_option maxHeartbeats 2000000 in
theorem List_any (l : List Int) (a : Option Addr) (cap : Nat) (w : World) (hl : l.length ≤ maxLen) (h : IntsAt w a l) (hb : ∀ n ∈ l, -9223372036854775808 ≤ n ∧ n ≤ 9223372036854775807) :
    Gives Tryz.prog 185 #[.slice a l.length cap] w (.tuple #[sV (lsS l), .int .i64 (lsE l)]) := by
  unfold maxLen at hl
  unfold Gives
  by_cases h2 : 20000 < l.length
  · have HS := Lib.hid (show lsS l = [] by unfold lsS; rw [if_pos h2])
    have HE := Lib.hid (show lsE l = 4 by unfold lsE; rw [if_pos h2])
    have d : decide ((20000 : Int) < ((l.length : Nat) : Int)) = true := by simp; omega
    clear hb
    go_enter Tryz.func185, Tryz.ntmps185
    go_wp2
    go_ret2
    exact ⟨by rw [HS.out, HE.out]; rfl, Below.refl _ _⟩
  · have d : decide ((20000 : Int) < ((l.length : Nat) : Int)) = false := by simp; omega
    have HB := Lib.hid hb
    clear hb
    go_enter Tryz.func185, Tryz.ntmps185
    go_wp2
    have B0 := Lib.hid (Bld.fresh w)
    go_loopw [12] (fun i wr => ∃ j : Nat, j ≤ l.length ∧ i = .int .i64 j ∧ (l.take j).all inR = true ∧ Bld w.heap.size w.heap.size (encs (l.take j)) wr ∧ Below w.heap.size w wr) (fun i _ => l.length - (intOf i).toNat)
    case atStart => exact ⟨0, Nat.zero_le _, rfl, by simp, by simpa [encs] using B0.out, (Below.refl _ w).alloc (Nat.le_refl _) _⟩
    case round =>
      obtain ⟨j, hj, rfl, hA, hBd, hB⟩ := hrel
      have hlen := encs_len _ hA
      have hlen' : (encs (l.take j)).length ≤ 180000 := by have : (l.take j).length ≤ j := List.length_take_le _ _; omega
      clear hlen
      have HA := Lib.hid hA
      have HD := Lib.hid hBd
      have HW := Lib.hid hB
      have hz := hB.size
      clear hA hBd
      by_cases hlt : j < l.length
      · obtain ⟨b, off, rfl, hc⟩ := (h.below hB).at hlt
        clear hB
        have HM := Lib.hid (HB.out l[j] (List.getElem_mem hlt))
        have HF := Lib.hid (all_take_false hlt)
        have HT := Lib.hid (all_take_succ hlt HA.out)
        have HX := Lib.hid (encs_take_succ hlt)
        have HI := Lib.hid (inR_iff l[j])
        have HL := Lib.hid (enc_le9 l[j])
        generalize l[j] = x at *
        obtain ⟨hx1, hx2⟩ := HM.out
        by_cases g1 : -4611686018427387904 ≤ x
        · by_cases g2 : x ≤ 4611686018427387904
          · have hok := HI.out.2 ⟨g1, g2⟩
            have hl9 := HL.out g1 g2
            have HK := Lib.hid hok
            clear hok
            go_wp2_with (go_at_call 95; go_in)
            refine (integer_any _ _ g1 g2).mono ?_
            intro w1 hB1
            have HD1 := Lib.hid (HD.out.ext hB1)
            have HW1 := Lib.hid (Ext.trans HW.out hB1)
            have hz1 := HW1.out.size
            clear hB1 HD
            go_wp2_with fail
            refine (writeString_any _ _ _ _ _ HD1.out (by omega) hz1).mono ?_
            rintro e w2 ⟨rfl, hD2, hB2⟩
            rw [HX.out] at hD2
            have HD2 := Lib.hid hD2
            have HW2 := Lib.hid (Below.trans HW1.out hB2)
            clear hD2 hB2 HD1
            go_wp2
            go_roundw
            case rel => exact ⟨j + 1, by omega, by go_num, HT.out HK.out, HD2.out, HW2.out⟩
            case measure => simp [intOf]; omega
          · have HS := Lib.hid (show lsS l = [] by unfold lsS; rw [if_neg h2, if_neg (by rw [HF.out (by rw [Bool.eq_false_iff]; intro h; have := HI.out.1 h; omega)]; simp)])
            have HE := Lib.hid (show lsE l = 2 by unfold lsE; rw [if_neg h2, if_neg (by rw [HF.out (by rw [Bool.eq_false_iff]; intro h; have := HI.out.1 h; omega)]; simp)])
            have hd : decide (x ≤ 4611686018427387904) = false := by simp; omega
            go_wp2_with (go_at_call 95; go_in)
            go_ret2
            exact ⟨by rw [HS.out, HE.out]; rfl, HW.out⟩
        · have HS := Lib.hid (show lsS l = [] by unfold lsS; rw [if_neg h2, if_neg (by rw [HF.out (by rw [Bool.eq_false_iff]; intro h; have := HI.out.1 h; omega)]; simp)])
          have HE := Lib.hid (show lsE l = 2 by unfold lsE; rw [if_neg h2, if_neg (by rw [HF.out (by rw [Bool.eq_false_iff]; intro h; have := HI.out.1 h; omega)]; simp)])
          have hd : decide (-4611686018427387904 ≤ x) = false := by simp; omega
          go_wp2_with (go_at_call 95; go_in)
          go_ret2
          exact ⟨by rw [HS.out, HE.out]; rfl, HW.out⟩
      · have hk : l.take j = l := List.take_of_length_le (by omega)
        rw [hk] at HA HD hlen'
        have HS := Lib.hid (show lsS l = encL l by unfold lsS; rw [if_neg h2, if_pos HA.out])
        have HE := Lib.hid (show lsE l = 0 by unfold lsE; rw [if_neg h2, if_pos HA.out])
        clear hk hB
        go_wp2_with fail
        refine (writeByte_any _ _ _ 1 1 rfl _ HD.out (by omega) hz).mono ?_
        rintro e w2 ⟨rfl, hD2, hB2⟩
        have HD2 := Lib.hid hD2
        have HW2 := Lib.hid (Below.trans HW.out hB2)
        have hz2 := HW2.out.size
        clear hD2 hB2 HD
        go_wp2_with fail
        refine (string_any _ _ _ _ HD2.out hz2).mono ?_
        rintro e w3 ⟨rfl, hB3⟩
        have HW3 := Lib.hid (Below.trans HW2.out hB3)
        clear hB3 HD2
        go_wp2
        go_ret2
        exact ⟨by rw [HS.out, HE.out]; rfl, HW3.out⟩

end Go.Proofs.YtfkjokbhnblndaaGreatDoor

namespace Go.Proofs.YtfkjokbhnblndaaGreatDoor
open Go.Lib (index countFrom replaceK replaceAll replace replaceNum count)

/-- a byte of a text, encoded -/
def esc1 (c : UInt8) : List UInt8 := if c = 0 then [0, 255] else [c]
def esc (l : List UInt8) : List UInt8 := l.flatMap esc1
/-- the encoding of a text -/
def encT (l : List UInt8) : List UInt8 := esc l ++ [0, 1]
def txS (l : List UInt8) : List UInt8 := if 100000 < l.length then [] else encT l
def txE (l : List UInt8) : Int := if 100000 < l.length then 4 else 0

theorem esc_cons (c : UInt8) (l : List UInt8) : esc (c :: l) = esc1 c ++ esc l := by simp [esc]
theorem esc_app (a b : List UInt8) : esc (a ++ b) = esc a ++ esc b := by simp [esc]
theorem esc1_len (c : UInt8) : 1 ≤ (esc1 c).length ∧ (esc1 c).length ≤ 2 := by unfold esc1; split <;> simp
theorem esc_len : ∀ l : List UInt8, l.length ≤ (esc l).length ∧ (esc l).length ≤ 2 * l.length
  | [] => by simp [esc]
  | c :: l => by have := esc_len l; have := esc1_len c; rw [esc_cons]; simp; omega

theorem idx0 : ∀ s : List UInt8, (index s [0] = -1 ∧ esc s = s) ∨ ∃ a b, s = a ++ 0 :: b ∧ index s [0] = (a.length : Int) ∧ esc a = a
  | [] => .inl ⟨by simp [index], rfl⟩
  | c :: l => by
    by_cases h : c = 0
    · subst h
      exact .inr ⟨[], l, rfl, by simp [index], rfl⟩
    · have hp : ([0] : List UInt8).isPrefixOf (c :: l) = false := by simp [List.isPrefixOf]; exact fun e => h e.symm
      have hs : esc1 c = [c] := by unfold esc1; rw [if_neg h]
      rcases idx0 l with ⟨h1, h2⟩ | ⟨a, b, h1, h2, h3⟩
      · refine .inl ⟨?_, by rw [esc_cons, hs, h2]; rfl⟩
        rw [index, hp, h1]; rfl
      · refine .inr ⟨c :: a, b, by rw [h1]; rfl, ?_, by rw [esc_cons, hs, h3]; rfl⟩
        rw [index, hp, h2]
        simp

theorem repl_esc : ∀ (f : Nat) (s : List UInt8), s.length < f → replaceK [0] [0, 255] (countFrom [0] f s) s = esc s
  | 0, s, h => by omega
  | f + 1, s, h => by
    rcases idx0 s with ⟨h1, h2⟩ | ⟨a, b, h1, h2, h3⟩
    · rw [countFrom, h1]; simp [replaceK, h2]
    · rw [countFrom, h2]
      have hne : ¬ ((a.length : Int) == -1) = true := by simp
      rw [if_neg hne, Nat.add_comm 1, Go.Lib.replaceK_hit _ _ _ _ a.length h2]
      have hd : s.drop (((a.length : Int)).toNat + ([0] : List UInt8).length) = b := by rw [h1]; simp
      have hd2 : s.drop (a.length + ([0] : List UInt8).length) = b := by rw [h1]; simp
      have ht : s.take a.length = a := by rw [h1]; simp
      rw [hd, hd2, ht, repl_esc f b (by rw [h1] at h; simp at h; omega), h1, esc_app, esc_cons, h3]
      simp [esc1]
theorem replaceAll_esc (s : List UInt8) : replaceAll s [0] [0, 255] = esc s := by
  unfold replaceAll replace
  rw [if_neg (by decide)]
  unfold replaceNum
  rw [if_pos (.inl (by decide))]
  exact repl_esc _ _ (by omega)
theorem count_le (f : Nat) : ∀ s : List UInt8, countFrom [0] f s ≤ s.length := by
  induction f with
  | zero => intro s; simp [countFrom]
  | succ f ih =>
    intro s
    rcases idx0 s with ⟨h1, h2⟩ | ⟨a, b, h1, h2, h3⟩
    · rw [countFrom, h1]; simp
    · rw [countFrom, h2]
      have hne : ¬ ((a.length : Int) == -1) = true := by simp
      have hd : s.drop (((a.length : Int)).toNat + ([0] : List UInt8).length) = b := by rw [h1]; simp
      rw [if_neg hne, hd]
      have := ih b
      rw [h1]; simp; omega

/-- reading a text from the rest r of a string on: acc is what has been read, at_ the bytes that it takes -/
def rdT : List UInt8 → Nat → List UInt8 → List UInt8 × Nat × Int
  | _, _, [] => ([], 0, 11)
  | acc, at_, [c] => if c = 0 then ([], 0, 11) else if acc.length = 100000 then ([], 0, 4) else rdT (acc ++ [c]) (at_ + 1) []
  | acc, at_, c :: d :: t =>
    if c = 0 then
      if d = 1 then (acc, at_ + 2, 0)
      else if d ≠ 255 then ([], 0, 12)
      else if acc.length = 100000 then ([], 0, 4)
      else rdT (acc ++ [0]) (at_ + 2) t
    else if acc.length = 100000 then ([], 0, 4)
    else rdT (acc ++ [c]) (at_ + 1) (d :: t)
/-- reading a text -/
def rdX (s : List UInt8) : List UInt8 × Nat × Int := rdT [] 0 s

theorem rdT_one (acc : List UInt8) (at_ : Nat) (c : UInt8) (t : List UInt8) (h : c ≠ 0) (h2 : acc.length ≠ 100000) : rdT acc at_ (c :: t) = rdT (acc ++ [c]) (at_ + 1) t := by
  cases t with
  | nil => simp [rdT, h, h2]
  | cons d t => rw [rdT, if_neg h, if_neg h2]
theorem rdT_lim (acc : List UInt8) (at_ : Nat) (c : UInt8) (t : List UInt8) (h : c ≠ 0) (h2 : acc.length = 100000) : rdT acc at_ (c :: t) = ([], 0, 4) := by
  cases t with
  | nil => simp [rdT, h, h2]
  | cons d t => rw [rdT, if_neg h, if_pos h2]
theorem rdT_enc : ∀ (l acc : List UInt8) (at_ : Nat) (rest : List UInt8), acc.length + l.length ≤ 100000 → rdT acc at_ (encT l ++ rest) = (acc ++ l, at_ + (encT l).length, 0)
  | [], acc, at_, rest, h => by simp [encT, esc, rdT]
  | c :: l, acc, at_, rest, h => by
    have e : encT (c :: l) ++ rest = esc1 c ++ (encT l ++ rest) := by simp [encT, esc_cons]
    have hl : acc.length ≠ 100000 := by simp at h; omega
    rw [e]
    by_cases hc : c = 0
    · subst hc
      have e2 : esc1 0 ++ (encT l ++ rest) = 0 :: 255 :: (encT l ++ rest) := rfl
      rw [e2, rdT, if_pos rfl, if_neg (by decide), if_neg (by simp), if_neg hl, rdT_enc l _ _ rest (by simp at h ⊢; omega)]
      simp [encT, esc_cons, esc1]; omega
    · have e2 : esc1 c ++ (encT l ++ rest) = c :: (encT l ++ rest) := by unfold esc1; rw [if_neg hc]; rfl
      rw [e2, rdT_one _ _ _ _ hc hl, rdT_enc l _ _ rest (by simp at h ⊢; omega)]
      simp [encT, esc_cons, esc1, hc]; omega
theorem rdX_enc (l rest : List UInt8) (h : l.length ≤ 100000) : rdX (encT l ++ rest) = (l, (encT l).length, 0) := by
  unfold rdX; rw [rdT_enc l [] 0 rest (by simpa using h)]; simp

theorem rdT_ok : ∀ (acc : List UInt8) (at_ : Nat) (r : List UInt8), (rdT acc at_ r).2.2 = 0 → acc.length ≤ 100000 →
    ∃ l, rdT acc at_ r = (acc ++ l, at_ + (encT l).length, 0) ∧ (encT l).length ≤ r.length ∧ r.take (encT l).length = encT l ∧ acc.length + l.length ≤ 100000 := by
  intro acc at_ r
  induction acc, at_, r using rdT.induct with
  | case1 => intro h; simp [rdT] at h
  | case2 => intro h; simp [rdT] at h
  | case3 acc at_ c h0 h2 => intro h; simp [rdT, h0, h2] at h
  | case4 acc at_ c h0 h2 ih => intro h; simp [rdT, h0, h2] at h
  | case5 acc at_ t =>
    intro _ hl
    exact ⟨[], by simp [rdT, encT, esc], by simp [encT, esc], by simp [encT, esc], by simpa using hl⟩
  | case6 acc at_ d t h1 h2 => intro h; simp [rdT, h1, h2] at h
  | case7 acc at_ d t h1 h2 h3 => intro h; simp at h2; subst h2; simp [rdT, h3] at h
  | case8 acc at_ d t h1 h2 h3 ih =>
    intro h hl
    have h2' : d = 255 := by simpa using h2
    subst h2'
    have e : rdT acc at_ (0 :: 255 :: t) = rdT (acc ++ [0]) (at_ + 2) t := by rw [rdT, if_pos rfl, if_neg (by decide), if_neg (by simp), if_neg h3]
    rw [e] at h
    obtain ⟨l, q1, q2, q3, q4⟩ := ih h (by simp; omega)
    refine ⟨0 :: l, ?_, ?_, ?_, by simp at q4 ⊢; omega⟩
    · rw [e, q1]; simp [encT, esc_cons, esc1]; omega
    · simp [encT, esc_cons, esc1] at q2 ⊢; omega
    · have e2 : encT (0 :: l) = 0 :: 255 :: encT l := by simp [encT, esc_cons, esc1]
      rw [e2, List.length_cons, List.length_cons, List.take_succ_cons, List.take_succ_cons, q3]
  | case9 acc at_ c d t h0 h2 => intro h; simp [rdT, h0, h2] at h
  | case10 acc at_ c d t h0 h2 ih =>
    intro h hl
    have e : rdT acc at_ (c :: d :: t) = rdT (acc ++ [c]) (at_ + 1) (d :: t) := by rw [rdT, if_neg h0, if_neg h2]
    rw [e] at h
    obtain ⟨l, q1, q2, q3, q4⟩ := ih h (by simp; omega)
    have e2 : encT (c :: l) = c :: encT l := by simp [encT, esc_cons, esc1, h0]
    refine ⟨c :: l, ?_, ?_, ?_, by simp at q4 ⊢; omega⟩
    · rw [e, q1, e2]; simp; omega
    · rw [e2]; simp at q2 ⊢; omega
    · rw [e2, List.length_cons, List.take_succ_cons, q3]
theorem rdX_ok {s : List UInt8} (h : (rdX s).2.2 = 0) : (rdX s).2.1 = (encT (rdX s).1).length ∧ (rdX s).2.1 ≤ s.length ∧ s.take (rdX s).2.1 = encT (rdX s).1 ∧ (rdX s).1.length ≤ 100000 := by
  obtain ⟨l, q1, q2, q3, q4⟩ := rdT_ok [] 0 s h (by simp)
  unfold rdX
  rw [q1]
  simp at q4 ⊢
  exact ⟨q2, q3, q4⟩
theorem rdT_err : ∀ (acc : List UInt8) (at_ : Nat) (r : List UInt8), (rdT acc at_ r).2.2 ≠ 0 → (rdT acc at_ r).1 = [] ∧ (rdT acc at_ r).2.1 = 0 := by
  intro acc at_ r
  induction acc, at_, r using rdT.induct with
  | case1 => intro _; simp [rdT]
  | case2 => intro _; simp [rdT]
  | case3 acc at_ c h0 h2 => intro _; simp [rdT, h0, h2]
  | case4 acc at_ c h0 h2 ih => intro _; simp [rdT, h0, h2]
  | case5 acc at_ t => intro h; simp [rdT] at h
  | case6 acc at_ d t h1 h2 => intro _; simp [rdT, h1, h2]
  | case7 acc at_ d t h1 h2 h3 => intro _; simp at h2; subst h2; simp [rdT, h3]
  | case8 acc at_ d t h1 h2 h3 ih =>
    have h2' : d = 255 := by simpa using h2
    subst h2'
    have e : rdT acc at_ (0 :: 255 :: t) = rdT (acc ++ [0]) (at_ + 2) t := by rw [rdT, if_pos rfl, if_neg (by decide), if_neg (by simp), if_neg h3]
    rw [e]; exact ih
  | case9 acc at_ c d t h0 h2 => intro _; simp [rdT, h0, h2]
  | case10 acc at_ c d t h0 h2 ih =>
    have e : rdT acc at_ (c :: d :: t) = rdT (acc ++ [c]) (at_ + 1) (d :: t) := by rw [rdT, if_neg h0, if_neg h2]
    rw [e]; exact ih
theorem rdX_err {s : List UInt8} (h : (rdX s).2.2 ≠ 0) : (rdX s).1 = [] ∧ (rdX s).2.1 = 0 := rdT_err _ _ _ h

end Go.Proofs.YtfkjokbhnblndaaGreatDoor

namespace Go.Proofs.YtfkjokbhnblndaaGreatDoor
open Go.RowKit
attribute [local go_sem] sB_extract
set_option linter.unusedVariables false

/-- one byte -/
def stepA (p : Int × Int) (c : UInt8) : Int × Int := ((p.1 + (c.toNat : Int)) % 65521, (p.2 + (p.1 + (c.toNat : Int)) % 65521) % 65521)
def fold (p : Int × Int) (l : List UInt8) : Int × Int := l.foldl stepA p
def Fine (p : Int × Int) : Prop := 0 ≤ p.1 ∧ p.1 < 65521 ∧ 0 ≤ p.2 ∧ p.2 < 65521
theorem fine_step {p : Int × Int} (h : Fine p) (c : UInt8) : Fine (stepA p c) := by
  unfold Fine stepA; simp only; omega
theorem fine_fold {p : Int × Int} (h : Fine p) (l : List UInt8) : Fine (fold p l) := by
  unfold fold
  induction l generalizing p with
  | nil => exact h
  | cons c l ih => exact ih (fine_step h c)
theorem fold_snoc (p : Int × Int) (l : List UInt8) (c : UInt8) : fold p (l ++ [c]) = stepA (fold p l) c := by simp [fold]
theorem take_snoc (s : ByteArray) (k : Nat) (h : k < s.size) : s.data.toList.take (k + 1) = s.data.toList.take k ++ [s[k]] := by
  rw [List.take_succ_eq_append_getElem (by simpa using h)]; rfl
def sumsO (p : Int × Int) : Obj := .cells #[.int .i64 p.1, .int .i64 p.2] 155 (0, 0)

theorem value_any (a b : Int) (w : World) (ha : 0 ≤ a) (ha' : a < 65521) (hb : 0 ≤ b) (hb' : b < 65521) :
    Calls Tryz.prog 99 #[.agg #[.int .i64 a, .int .i64 b]] w fun e w' => e = .returned (.int .i64 (b * 65536 + a)) ∧ Below w.heap.size w w' := by
  go_enter Tryz.func99, Tryz.ntmps99
  go_wp2
  go_ret
  exact ⟨rfl, (Below.refl _ _).alloc (Nat.le_refl _) _⟩

theorem add_any (a b : Int) (c : UInt8) (k : Nat) (w : World) (ha : 0 ≤ a) (ha' : a < 65521) (hb : 0 ≤ b) (hb' : b < 65521)
    (h : w.heap[k]? = some (sumsO (a, b))) :
    Calls Tryz.prog 98 #[.pointer (some ⟨k, 0, none⟩), .int .u8 (c.toNat : Int)] w fun e w' => e = .returned (.tuple #[]) ∧ Turn k (sumsO (stepA (a, b) c)) w w' := by
  have h0 : w.cell? ⟨k, 0, none⟩ = some (.int .i64 a) := cell_of h rfl
  have h1 : w.cell? ⟨k, 1, none⟩ = some (.int .i64 b) := cell_of h rfl
  have f0 : w.frozen? ⟨k, 0, none⟩ = false := free_of h
  have f1 : w.frozen? ⟨k, 1, none⟩ = false := free_of h
  have hc := c.toNat_lt
  have T0 := Lib.hid ((((Turn.refl h).setCell (i := 0) (.int .i64 ((a + c.toNat) % 65521))).setCell (i := 1) (.int .i64 ((b + (a + c.toNat)) % 65521))).drew)
  clear h
  go_enter Tryz.func98, Tryz.ntmps98
  go_wp2
  go_region
  go_wp2
  go_end0
  refine ⟨rfl, ?_⟩
  have T := T0.out
  simp [sumsO, stepA] at T ⊢
  exact T


theorem each_any (s : ByteArray) (p : Int × Int) (k : Nat) (w : World) (hs : s.size ≤ maxLen) (hp : Fine p) (h : w.heap[k]? = some (sumsO p)) :
    Calls Tryz.prog 97 #[.string s, .func (.func 98) #[.pointer (some ⟨k, 0, none⟩)] #[]] w fun e w' => e = .returned (.tuple #[]) ∧ Turn k (sumsO (fold p s.data.toList)) w w' := by
  unfold maxLen at hs
  have T0 := Lib.hid (Turn.refl h)
  have HP := Lib.hid hp
  clear h hp
  go_enter Tryz.func97, Tryz.ntmps97
  go_wp2
  go_loopw [7] (fun i wr => ∃ j : Nat, j ≤ s.size ∧ i = .int .i64 j ∧ Turn k (sumsO (fold p (s.data.toList.take j))) w wr) (fun i _ => s.size - (intOf i).toNat)
  case atStart => exact ⟨0, Nat.zero_le _, rfl, by simpa [fold] using T0.out⟩
  case round =>
    obtain ⟨j, hj, rfl, hT⟩ := hrel
    have T1 := Lib.hid hT
    clear hT
    by_cases hlt : j < s.size
    · have HS := Lib.hid (take_snoc s j hlt)
      go_wp2_with fail
      have hF := fine_fold HP.out (s.data.toList.take j)
      refine (add_any _ _ _ k _ hF.1 hF.2.1 hF.2.2.1 hF.2.2.2 T1.out.here).mono ?_
      rintro e w1 ⟨rfl, hT1⟩
      have T2 := Lib.hid (T1.out.trans hT1)
      clear hT1 hF
      go_wp2
      go_roundw
      case rel => exact ⟨j + 1, by omega, by go_num, by rw [HS.out, fold_snoc]; exact T2.out⟩
      case measure => simp [intOf]; omega
    · go_wp2
      go_end0
      have hk : s.data.toList.take j = s.data.toList := List.take_of_length_le (by simp; omega)
      exact ⟨rfl, by rw [← hk]; exact T1.out⟩

/-- the checksum of a list of bytes -/
def ck (l : List UInt8) : Int := (fold (1, 0) l).2 * 65536 + (fold (1, 0) l).1
theorem fine10 : Fine (1, 0) := by unfold Fine; omega

theorem Sum_any (s : ByteArray) (w : World) (hs : s.size ≤ maxLen) : Gives Tryz.prog 61 #[.string s] w (.int .i64 (ck s.data.toList)) := by
  obtain ⟨hF1, hF2, hF3, hF4⟩ := fine_fold fine10 s.data.toList
  unfold Gives
  go_enter Tryz.func61, Tryz.ntmps61
  go_wp2_with fail
  refine (each_any s (1, 0) w.heap.size _ hs fine10 ?_).mono ?_
  · exact alloc_here _ _
  rintro e w1 ⟨rfl, hT⟩
  have h0 : w1.cell? ⟨w.heap.size, 0, none⟩ = some (.int .i64 (fold (1,0) s.data.toList).1) := cell_of hT.here rfl
  have h1 : w1.cell? ⟨w.heap.size, 1, none⟩ = some (.int .i64 (fold (1,0) s.data.toList).2) := cell_of hT.here rfl
  have HB := Lib.hid (hT.below (Nat.le_refl _) (by simp))
  clear hT
  go_wp2_with fail
  refine (value_any _ _ _ hF1 hF2 hF3 hF4).mono ?_
  rintro e w2 ⟨rfl, hB2⟩
  go_wp2
  go_ret
  exact ⟨rfl, ((((Below.refl _ w).alloc (Nat.le_refl _) _).trans HB.out).trans (hB2.mono (by have := HB.out.size; simp at this; omega)))⟩

theorem Sum_l (l : List UInt8) (w : World) (hl : l.length ≤ maxLen) : Gives Tryz.prog 61 #[sV l] w (.int .i64 (ck l)) := Sum_any (sB l) w (by rw [sB_size]; exact hl)
end Go.Proofs.YtfkjokbhnblndaaGreatDoor

namespace Go.Proofs.YtfkjokbhnblndaaGreatDoor
open Go.RowKit
attribute [local go_sem] sB_extract
set_option linter.unusedVariables false

def byteAt (n d : Int) : UInt8 := UInt8.ofNat (n / d % 256).toNat
theorem byteAt_int (n d : Int) (hd : 0 < d) : ((byteAt n d).toNat : Int) = n / d % 256 := by
  unfold byteAt
  have h1 : 0 ≤ n / d % 256 := Int.emod_nonneg _ (by omega)
  have h2 : n / d % 256 < 256 := Int.emod_lt_of_pos _ (by omega)
  simp; omega
/-- the four bytes of a checksum -/
def be4 (n : Int) : List UInt8 := [byteAt n 16777216, byteAt n 65536, byteAt n 256, byteAt n 1]

theorem be4_vals {n : Int} (h1 : 0 ≤ n) (h2 : n < 4294967296) : bsV (be4 n) = [.int .u8 (n / 16777216), .int .u8 (n / 65536 % 256), .int .u8 (n / 256 % 256), .int .u8 (n % 256)] := by
  have q1 := byteAt_int n 16777216 (by omega)
  have q2 := byteAt_int n 65536 (by omega)
  have q3 := byteAt_int n 256 (by omega)
  have q4 := byteAt_int n 1 (by omega)
  rw [show n / 16777216 % 256 = n / 16777216 by omega] at q1
  rw [show n / 1 % 256 = n % 256 by omega] at q4
  simp only [bsV, be4, List.map, bV, q1, q2, q3, q4]

theorem bytes_any (n : Int) (w : World) (h1 : 0 ≤ n) (h2 : n < 4294967296) : Calls Tryz.prog 60 #[.int .i64 n] w fun e w' => e = .returned (.agg (bsV (be4 n)).toArray) ∧ Below w.heap.size w w' := by
  have H := Lib.hid (be4_vals h1 h2)
  go_enter Tryz.func60, Tryz.ntmps60
  go_wp2
  refine bodyPost_ret (v := .agg (bsV (be4 n)).toArray) ?_ rfl ⟨rfl, (Below.refl _ _).alloc (Nat.le_refl _) _⟩
  rw [H.out]
  simp [results, Tryz.results60, go_sem]

theorem bytes_at (n : Int) (a b c d : UInt8) (w : World) (h1 : 0 ≤ n) (h2 : n < 4294967296) (h : be4 n = [a, b, c, d]) : Gives Tryz.prog 60 #[.int .i64 n] w (.agg #[.int .u8 (a.toNat : Int), .int .u8 (b.toNat : Int), .int .u8 (c.toNat : Int), .int .u8 (d.toNat : Int)]) := by
  have := bytes_any n w h1 h2
  rw [h] at this
  exact this

theorem conv_arr4 (w : World) (a b c d : UInt8) (t : TypeId) : (convert 42 9 (.slice (some ⟨w.heap.size, 0, none⟩) 4 4)).run Tryz.prog (w.alloc (.cells #[.int .u8 (a.toNat : Int), .int .u8 (b.toNat : Int), .int .u8 (c.toNat : Int), .int .u8 (d.toNat : Int)] t)) = .ok (sV [a, b, c, d]) (w.alloc (.cells #[.int .u8 (a.toNat : Int), .int .u8 (b.toNat : Int), .int .u8 (c.toNat : Int), .int .u8 (d.toNat : Int)] t)) := by
  refine run_convert_bytes_back _ 42 9 5 ⟨w.heap.size, 0, none⟩ 4 [a, b, c, d] Tryz.underlying42 Tryz.underlying5 Tryz.underlying9 (fun j hj => ?_)
  have hA := alloc_here w (.cells #[.int .u8 (a.toNat : Int), .int .u8 (b.toNat : Int), .int .u8 (c.toNat : Int), .int .u8 (d.toNat : Int)] t)
  match j, hj with
  | 0, _ => exact cell_of hA rfl
  | 1, _ => exact cell_of hA rfl
  | 2, _ => exact cell_of hA rfl
  | 3, _ => exact cell_of hA rfl

theorem ck_bd (l : List UInt8) : 0 ≤ ck l ∧ ck l < 4294967296 := by
  obtain ⟨h1, h2, h3, h4⟩ := fine_fold fine10 l
  unfold ck; omega

/-- the frame of a string -/
def frame (l : List UInt8) : List UInt8 := enc l.length ++ (l ++ be4 (ck (enc l.length ++ l)))

set_option maxHeartbeats 1000000 in
theorem Seal_yes (l : List UInt8) (w : World) (h : l.length ≤ 100000) : Gives Tryz.prog 27 #[sV l] w (.tuple #[sV (frame l), .int .i64 0]) := by
  have hE := enc_len l.length (by omega) (by omega)
  have HF := Lib.hid (show frame l = enc l.length ++ (l ++ be4 (ck (enc l.length ++ l))) from rfl)
  unfold Gives
  go_enter Tryz.func27, Tryz.ntmps27
  go_wp2_with fail
  refine (Int_yes _ _ (by omega) (by omega)).mono ?_
  intro w1 hB1
  generalize enc l.length = E at *
  obtain ⟨hc1, hc2⟩ := ck_bd (E ++ l)
  go_wp2_with fail
  refine (Sum_l _ _ (by unfold maxLen; simp; omega)).mono ?_
  intro w2 hB2
  go_wp2_with fail
  obtain ⟨a, b, c, d, hT⟩ : ∃ a b c d, be4 (ck (E ++ l)) = [a, b, c, d] := ⟨_, _, _, _, rfl⟩
  refine (bytes_at _ a b c d _ hc1 hc2 hT).mono ?_
  intro w3 hB3
  have HT := Lib.hid hT
  clear hT
  have hconv := conv_arr4 w3 a b c d 119
  go_wp2
  go_ret2
  rw [HF.out, HT.out]
  exact ⟨rfl, ((hB1.trans (hB2.mono hB1.size)).trans (hB3.mono (Nat.le_trans hB1.size hB2.size))).alloc (Nat.le_trans (Nat.le_trans hB1.size hB2.size) hB3.size) _⟩

theorem Seal_no (l : List UInt8) (w : World) (h : 100000 < l.length) (hl : l.length ≤ maxLen) : Gives Tryz.prog 27 #[sV l] w (.tuple #[sV [], .int .i64 4]) := by
  unfold maxLen at hl
  unfold Gives
  go_enter Tryz.func27, Tryz.ntmps27
  go_wp2
  go_ret2
  exact ⟨rfl, Below.refl _ _⟩

end Go.Proofs.YtfkjokbhnblndaaGreatDoor

namespace Go.Proofs.YtfkjokbhnblndaaGreatDoor
open Go.RowKit
attribute [local go_sem] sB_extract
set_option linter.unusedVariables false

/-- a reader in memory -/
def rdO (s : List UInt8) (at_ : Nat) (e : Int) : Obj := .cells #[sV s, .int .i64 at_, .int .i64 e] 163 (0, 0)

theorem rd0 {w : World} {k : Nat} {s : List UInt8} {p : Nat} {e : Int} (h : w.heap[k]? = some (rdO s p e)) : w.cell? ⟨k, 0, none⟩ = some (sV s) := cell_of h rfl
theorem rd1 {w : World} {k : Nat} {s : List UInt8} {p : Nat} {e : Int} (h : w.heap[k]? = some (rdO s p e)) : w.cell? ⟨k, 1, none⟩ = some (.int .i64 p) := cell_of h rfl
theorem rd2 {w : World} {k : Nat} {s : List UInt8} {p : Nat} {e : Int} (h : w.heap[k]? = some (rdO s p e)) : w.cell? ⟨k, 2, none⟩ = some (.int .i64 e) := cell_of h rfl
theorem rdf {w : World} {k : Nat} {s : List UInt8} {p : Nat} {e : Int} (i : Nat) (h : w.heap[k]? = some (rdO s p e)) : w.frozen? ⟨k, i, none⟩ = false := free_of h

/-- the error that a reader remembers -/
def ferr (e f : Int) : Int := if e = 0 then f else e
theorem ferr0 (f : Int) : ferr 0 f = f := rfl
theorem ferrn {e : Int} (h : e ≠ 0) (f : Int) : ferr e f = e := if_neg h
theorem Turn.undrewN {k n : Nat} {o : Obj} {w w' : World} (h : Turn k o (w.drewN n) w') : Turn k o w w' := ⟨h.os, h.tape, h.output, h.size, h.here, h.other⟩

theorem fail_any (s : List UInt8) (p : Nat) (e f : Int) (k : Nat) (w : World) (h : w.heap[k]? = some (rdO s p e)) :
    Calls Tryz.prog 132 #[.pointer (some ⟨k, 0, none⟩), .int .i64 f] w fun r w' => r = .returned (.tuple #[]) ∧ Turn k (rdO s p (ferr e f)) w w' := by
  have h2 := rd2 h
  have f2 := rdf 2 h
  have T0 := Lib.hid (Turn.refl h)
  have T1 := Lib.hid ((Turn.refl h).setCell (i := 2) (.int .i64 f))
  clear h
  by_cases he : e = 0
  · subst he
    go_enter Tryz.func132, Tryz.ntmps132
    go_wp2
    go_end0
    exact ⟨rfl, by rw [ferr0]; exact T1.out⟩
  · have hb : (e == 0) = false := by rw [beq_eq_false_iff_ne]; exact he
    have HE := Lib.hid he
    clear he
    go_enter Tryz.func132, Tryz.ntmps132
    go_wp2
    go_end0
    exact ⟨rfl, by rw [ferrn HE.out]; exact T0.out⟩

theorem rdO_step (s : List UInt8) (p : Nat) (e : Int) : Obj.cells (#[sV s, .int .i64 p, .int .i64 e].setIfInBounds 1 (.int .i64 ((p : Int) + 1))) 163 (0, 0) = rdO s (p + 1) e := by
  unfold rdO; rw [show ((p + 1 : Nat) : Int) = (p : Int) + 1 by omega]; rfl

set_option maxRecDepth 100000 in
theorem next_yes (s : List UInt8) (p : Nat) (e : Int) (k : Nat) (w : World) (hs : s.length ≤ maxLen) (hp : p < s.length) (h : w.heap[k]? = some (rdO s p e)) :
    Calls Tryz.prog 131 #[.pointer (some ⟨k, 0, none⟩)] w fun r w' => r = .returned (.int .u8 (s[p].toNat : Int)) ∧ Turn k (rdO s (p + 1) e) w w' := by
  have h0 := rd0 h
  have h1 := rd1 h
  have f1 := rdf 1 h
  have hd : decide (s.length ≤ p) = false := by simp; omega
  have T1 := (Turn.refl h).setCell (i := 1) (.int .i64 ((p : Int) + 1))
  rw [rdO_step] at T1
  have T1 := Lib.hid T1
  unfold maxLen at hs
  clear h
  go_enter Tryz.func131, Tryz.ntmps131
  go_wp2
  go_quiet (fail)
  go_wp2
  go_quiet (fail)
  go_wp2
  go_ret
  refine ⟨rfl, ?_⟩
  have T := T1.out
  exact ⟨T.os, T.tape, T.output, T.size, T.here, T.other⟩

theorem next_no (s : List UInt8) (p : Nat) (e : Int) (k : Nat) (w : World) (hs : s.length ≤ maxLen) (hp : s.length ≤ p) (hp2 : p ≤ maxLen) (h : w.heap[k]? = some (rdO s p e)) :
    Calls Tryz.prog 131 #[.pointer (some ⟨k, 0, none⟩)] w fun r w' => r = .returned (.int .u8 0) ∧ Turn k (rdO s p (ferr e 11)) w w' := by
  have h0 := rd0 h
  have h1 := rd1 h
  have hd : decide (s.length ≤ p) = true := by simp; omega
  have HH := Lib.hid h
  unfold maxLen at hs hp2
  clear h
  go_enter Tryz.func131, Tryz.ntmps131
  go_wp2
  go_quiet (fail)
  go_wp2_with fail
  refine (fail_any s p e 11 k (w.drewN nq) HH.out).mono ?_
  rintro r w1 ⟨rfl, hT⟩
  go_wp2
  go_ret
  exact ⟨rfl, hT.undrewN⟩

end Go.Proofs.YtfkjokbhnblndaaGreatDoor

namespace Go.Proofs.YtfkjokbhnblndaaGreatDoor
open Go.RowKit
attribute [local go_sem] sB_extract
set_option linter.unusedVariables false

/-- what a call of integer leaves -/
def RdPost (s : List UInt8) (p k : Nat) (w : World) (e : Ending) (w' : World) : Prop :=
  ∃ q, e = .returned (.int .i64 (rdI (s.drop p)).1) ∧ q ≤ s.length ∧ Turn k (rdO s q (rdI (s.drop p)).2.2) w w' ∧ ((rdI (s.drop p)).2.2 = 0 → q = p + (rdI (s.drop p)).2.1)
theorem RdPost.mk {s : List UInt8} {p k q : Nat} {w w' : World} {n : Int} {z : Nat} {e : Int} (h : rdI (s.drop p) = (n, z, e)) (hq : q ≤ s.length) (hT : Turn k (rdO s q e) w w') (hz : e = 0 → q = p + z) : RdPost s p k w (.returned (.int .i64 n)) w' := by
  refine ⟨q, ?_, hq, ?_, ?_⟩
  · rw [h]
  · rw [h]; exact hT
  · rw [h]; exact hz

theorem or_u64 (m : Nat) (b : UInt8) (h : m < 2 ^ 56) : bits BinOp.or .u64 ((m : Int) * 256) (b.toNat : Int) = ((m * 256 + b.toNat : Nat) : Int) := by
  have hb := b.toNat_lt
  rw [show ((m : Int) * 256) = ((m * 256 : Nat) : Int) by omega, u64_or_nat _ _ (by omega) (by omega)]
  congr 1
  have := Nat.two_pow_add_eq_or_of_lt (i := 8) (b := b.toNat) hb m
  rw [show m * 256 = 2 ^ 8 * m by omega, ← this]

theorem integer_end (s : List UInt8) (p k : Nat) (w : World) (hs : s.length ≤ 140737488355328) (hp : s.length ≤ p) (hp2 : p ≤ s.length) (h : w.heap[k]? = some (rdO s p 0)) :
    Calls Tryz.prog 103 #[.pointer (some ⟨k, 0, none⟩)] w (RdPost s p k w) := by
  have hr : rdI (s.drop p) = (0, 0, 11) := by rw [List.drop_of_length_le hp]; rfl
  have HR := Lib.hid hr
  have h1 := rd1 h
  have HH := Lib.hid h
  clear h hr
  go_enter Tryz.func103, Tryz.ntmps103
  go_wp2_with fail
  refine (next_no s p 0 k _ (by unfold maxLen; omega) hp (by unfold maxLen; omega) HH.out).mono ?_
  rintro r w1 ⟨rfl, hT⟩
  rw [ferr0] at hT
  have h2 := rd2 hT.here
  have HT := Lib.hid hT
  clear hT
  go_wp2
  go_ret
  exact RdPost.mk HR.out hp2 HT.out (by omega)

theorem drop_at (s : List UInt8) (p : Nat) (hp : p < s.length) : s.drop p = s[p] :: s.drop (p + 1) := List.drop_eq_getElem_cons hp

theorem integer_bad (s : List UInt8) (p k : Nat) (w : World) (hs : s.length ≤ 140737488355328) (hp : p < s.length) (hc : s[p].toNat < 119 ∨ 136 < s[p].toNat) (h : w.heap[k]? = some (rdO s p 0)) :
    Calls Tryz.prog 103 #[.pointer (some ⟨k, 0, none⟩)] w (RdPost s p k w) := by
  have HR := Lib.hid (show rdI (s.drop p) = (0, 0, 12) by rw [drop_at s p hp, rdI_cons, if_pos hc])
  have h1 := rd1 h
  have HH := Lib.hid h
  have hb := s[p].toNat_lt
  clear h
  rcases hc with hc | hc
  all_goals
    go_enter Tryz.func103, Tryz.ntmps103
    go_wp2_with fail
    refine (next_yes s p 0 k _ (by unfold maxLen; omega) hp HH.out).mono ?_
    rintro r w1 ⟨rfl, hT⟩
    have h2 := rd2 hT.here
    have HT := Lib.hid hT
    clear hT
    go_wp2_with fail
    refine (fail_any s (p + 1) 0 12 k _ HT.out.here).mono ?_
    rintro r w2 ⟨rfl, hT2⟩
    rw [ferr0] at hT2
    have HT2 := Lib.hid (HT.out.trans hT2)
    clear hT2
    go_wp2
    go_ret
    exact RdPost.mk HR.out (by omega) HT2.out (by omega)

/-- pos: the string ends too early -/
theorem integer_short_pos (s : List UInt8) (p k j : Nat) (w : World) (hs : s.length ≤ 140737488355328) (hp : p < s.length) (hj : j ≤ 8) (hc : s[p].toNat = 128 + j) (ht : (s.drop (p + 1)).length < j) (h : w.heap[k]? = some (rdO s p 0)) :
    Calls Tryz.prog 103 #[.pointer (some ⟨k, 0, none⟩)] w (RdPost s p k w) := by
  have hh : s[p] = if false then headN j else headP j := UInt8.toNat_inj.1 (by rw [if_neg (by simp), headP_nat hj]; exact hc)
  have HR := Lib.hid (show rdI (s.drop p) = (0, 0, 11) by rw [drop_at s p hp, rdI_head s[p] _ false j hj hh, if_pos ht])
  have hlen : s.length < p + 1 + j := by simp at ht; omega
  have h1 := rd1 h
  have HH := Lib.hid h
  have hb := s[p].toNat_lt
  have HC := Lib.hid hc
  clear h hh ht hc
  go_enter Tryz.func103, Tryz.ntmps103
  go_wp2_with fail
  refine (next_yes s p 0 k _ (by unfold maxLen; omega) hp HH.out).mono ?_
  rintro r w1 ⟨rfl, hT⟩
  have h2 := rd2 hT.here
  have HT := Lib.hid hT
  clear hT
  rw [show ((s[p].toNat : Nat) : Int) = 128 + (j : Int) from by have := HC.out; omega]
  have hd1 : decide (128 + (j : Int) ≤ 127) = false := by simp; omega
  go_wp2
  rw [show (128 + (j : Int) - 128 : Int) = (j : Int) from by omega]
  go_loopw [7, 34] (fun n i wr => ∃ (a : Nat) (m : Int) (q : Nat) (e : Int), i = .int .i64 a ∧ a ≤ j ∧ n = .int .u64 m ∧ q ≤ s.length ∧ Turn k (rdO s q e) w wr ∧ ((e = 0 ∧ q = p + 1 + a) ∨ e = 11)) (fun _ i _ => j - (intOf i).toNat)
  case atStart => exact ⟨0, 0, p + 1, 0, rfl, by omega, rfl, by omega, HT.out, .inl ⟨rfl, rfl⟩⟩
  case round =>
    obtain ⟨a, m, q, e, rfl, ha, rfl, hq, hT, he⟩ := hrel
    have HT2 := Lib.hid hT
    have HE := Lib.hid he
    clear hT he
    by_cases hlt : a < j
    · by_cases hq2 : q < s.length
      · go_wp2_with fail
        refine (next_yes s q e k _ (by unfold maxLen; omega) hq2 HT2.out.here).mono ?_
        rintro r w2 ⟨rfl, hT3⟩
        have HT3 := Lib.hid (HT2.out.trans hT3)
        clear hT3
        have hbq := s[q].toNat_lt
        go_wp2
        go_roundw
        case rel => exact ⟨a + 1, _, q + 1, e, by go_num, by omega, rfl, by omega, HT3.out, by have := HE.out; omega⟩
        case measure => simp [intOf]; omega
      · go_wp2_with fail
        refine (next_no s q e k _ (by unfold maxLen; omega) (by omega) (by unfold maxLen; omega) HT2.out.here).mono ?_
        rintro r w2 ⟨rfl, hT3⟩
        have HT3 := Lib.hid (HT2.out.trans hT3)
        clear hT3
        have hfe : ferr e 11 = 11 := by unfold ferr; have := HE.out; split <;> omega
        have HF := Lib.hid hfe
        clear hfe
        go_wp2
        go_roundw
        case rel => exact ⟨a + 1, _, q, 11, by go_num, by omega, rfl, by omega, by rw [← HF.out]; exact HT3.out, .inr rfl⟩
        case measure => simp [intOf]; omega
    · have he : e = 11 := by have := HE.out; omega
      subst he
      have h2 := rd2 HT2.out.here
      go_wp2
      go_ret
      exact RdPost.mk HR.out hq HT2.out (by omega)

theorem dg_snoc_pos (c : List UInt8) (a : Nat) (h : a < c.length) : dg false (c.take (a + 1)) = dg false (c.take a) ++ [c[a]] := by
  rw [List.take_succ_eq_append_getElem h]; simp [dg]

/-- pos: the bytes are there -/
theorem integer_full_pos (s : List UInt8) (p k j : Nat) (w : World) (hs : s.length ≤ 140737488355328) (hp : p < s.length) (hj : j ≤ 8) (hc : s[p].toNat = 128 + j) (ht : j ≤ (s.drop (p + 1)).length) (h : w.heap[k]? = some (rdO s p 0)) :
    Calls Tryz.prog 103 #[.pointer (some ⟨k, 0, none⟩)] w (RdPost s p k w) := by
  have hh : s[p] = if false then headN j else headP j := UInt8.toNat_inj.1 (by rw [if_neg (by simp), headP_nat hj]; exact hc)
  have HR := Lib.hid (show rdI (s.drop p) = rdB false (dg false ((s.drop (p + 1)).take j)) by rw [drop_at s p hp, rdI_head s[p] _ false j hj hh, if_neg (by omega)])
  have hlen : p + 1 + j ≤ s.length := by simp at ht; omega
  have hcl : ((s.drop (p + 1)).take j).length = j := by simp; omega
  have HI := Lib.hid (enc_iff false s[p] ((s.drop (p + 1)).take j) (by omega) (by rw [hcl]; exact hh))
  have HS := Lib.hid (show s[p] :: (s.drop (p + 1)).take j = (s.take (p + 1 + j)).drop p by
    rw [List.drop_take, drop_at s p hp, show p + 1 + j - p = j + 1 by omega, List.take_succ_cons])
  have HG := Lib.hid (show ∀ a, a < j → dg false ((s.drop (p + 1)).take (a + 1)) = dg false ((s.drop (p + 1)).take a) ++ [s[p + 1 + a]?.getD 0] by
    intro a ha
    rw [dg_snoc_pos _ a (by simp; omega)]
    simp [List.getElem_drop, show p + 1 + a < s.length by omega])
  have h1 := rd1 h
  have HH := Lib.hid h
  have HL := Lib.hid ht
  have hb := s[p].toNat_lt
  have HC := Lib.hid hc
  clear h hh ht hc hcl
  generalize (s.drop (p + 1)) = t at *
  go_enter Tryz.func103, Tryz.ntmps103
  go_wp2_with fail
  refine (next_yes s p 0 k _ (by unfold maxLen; omega) hp HH.out).mono ?_
  rintro r w1 ⟨rfl, hT⟩
  have h2 := rd2 hT.here
  have HT := Lib.hid hT
  clear hT
  rw [show ((s[p].toNat : Nat) : Int) = 128 + (j : Int) from by have := HC.out; omega]
  have hd1 : decide (128 + (j : Int) ≤ 127) = false := by simp; omega
  go_wp2
  rw [show (128 + (j : Int) - 128 : Int) = (j : Int) from by omega]
  go_loopw [7, 34] (fun n i wr => ∃ (a : Nat), i = .int .i64 a ∧ a ≤ j ∧ n = .int .u64 (val (dg false (t.take a)) : Int) ∧ Turn k (rdO s (p + 1 + a) 0) w wr) (fun _ i _ => j - (intOf i).toNat)
  case atStart => exact ⟨0, rfl, by omega, by simp [dg, val], HT.out⟩
  case round =>
    obtain ⟨a, rfl, ha, rfl, hT⟩ := hrel
    have HT2 := Lib.hid hT
    clear hT
    by_cases hlt : a < j
    · have hm : val (dg false (t.take a)) < 2 ^ 56 := by
        have h1 := val_lt (dg false (t.take a))
        have h2 : (dg false (t.take a)).length ≤ 7 := by rw [dg_len, List.length_take]; omega
        have h3 : 256 ^ (dg false (t.take a)).length ≤ 256 ^ 7 := Nat.pow_le_pow_right (by omega) h2
        omega
      have hg := HG.out a hlt
      have hq2 : p + 1 + a < s.length := by omega
      generalize hM : val (dg false (t.take a)) = m at *
      have HV := Lib.hid (show val (dg false (t.take (a + 1))) = m * 256 + (s[p + 1 + a]).toNat by rw [hg, val_snoc, hM]; simp [hq2])
      have ho := or_u64 m (s[p + 1 + a]) hm
      clear hg hM
      have hbq := s[p + 1 + a].toNat_lt
      go_wp2_with fail
      refine (next_yes s (p + 1 + a) 0 k _ (by unfold maxLen; omega) hq2 HT2.out.here).mono ?_
      rintro r w2 ⟨rfl, hT3⟩
      have HT3 := Lib.hid (HT2.out.trans hT3)
      clear hT3
      go_wp2
      go_roundw
      case rel => exact ⟨a + 1, by go_num, by omega, by rw [HV.out]; exact int_eq (by omega), HT3.out⟩
      case measure => simp [intOf]; omega
    · obtain rfl : a = j := by omega
      clear HG HC HH hlt
      have hdl : (dg false (t.take a)).length ≤ 8 := by rw [dg_len, List.length_take]; omega
      have hN8 := val_lt8 hdl
      generalize hD : dg false (t.take a) = d at *
      have HD := Lib.hid hD
      clear hD
      have h2 := rd2 HT2.out.here
      by_cases hbig : 4611686018427387904 < val d
      · have HB := Lib.hid (show rdI (s.drop p) = (0, 0, 12) by rw [HR.out, rdB, if_pos (by simp; omega)])
        clear HR HI hdl HD
        generalize val d = N at *
        rcases Nat.lt_or_ge 4611686018427387904 N with hgt | hle
        · have hd3 : decide ((4611686018427387904 : Int) < (N : Int)) = true := by simp; omega
          go_wp2_with fail
          refine (fail_any s (p + 1 + a) 0 12 k _ HT2.out.here).mono ?_
          rintro r w2 ⟨rfl, hT3⟩
          rw [ferr0] at hT3
          have HT3 := Lib.hid (HT2.out.trans hT3)
          clear hT3
          go_wp2
          go_ret
          exact RdPost.mk HB.out (by omega) HT3.out (by omega)
        · omega
      · cases hl : lead d with
        | true =>
          have HB := Lib.hid (show rdI (s.drop p) = (0, 0, 12) by rw [HR.out, rdB, if_pos (by simp [hl])])
          have hne : enc (outOf false d) ≠ (s.take (p + 1 + a)).drop p := fun e => by rw [HS.out] at HI; exact absurd (HI.out.1 e) (by rw [hl]; simp)
          have hq : (enc (outOf false d) == (s.take (p + 1 + a)).drop p) = false := by rw [beq_eq_false_iff_ne]; exact hne
          clear HR HI hne hl
          unfold outOf at hq
          simp only [Bool.false_eq_true, if_false] at hq
          generalize val d = N at *
          have hc0 := Up.cell (rd0 HT2.out.here)
          have hc1 := Up.cell (rd1 HT2.out.here)
          have hw := wrapi (x := (N : Int)) (by omega) (by omega)
          go_wp2
          refine wp_region_up (by kernel_rfl) (by kernel_rfl) ?_
          repeat (go_big_quiet_step ((go_at_call 96; exact Up.call (integer_any _ _ (by omega) (by omega)))))
          refine wpQuiet_nil ?_
          rintro w3 ⟨U, rfl⟩
          have HTU := Lib.hid (HT2.out.of_below U.ext.below)
          go_wp2_with fail
          refine (fail_any s (p + 1 + a) 0 12 k _ HTU.out.here).mono ?_
          rintro r w2 ⟨rfl, hT3⟩
          rw [ferr0] at hT3
          have HT3 := Lib.hid (HTU.out.trans hT3)
          clear hT3
          go_wp2
          go_ret
          exact RdPost.mk HB.out (by omega) HT3.out (by omega)
        | false =>
          have hdl2 : d.length = a := by rw [← HD.out, dg_len, List.length_take]; have := HL.out; omega
          have HB := Lib.hid (show rdI (s.drop p) = (outOf false d, 1 + d.length, 0) by rw [HR.out, rdB, if_neg (by simp [hl]; omega)]; rfl)
          have hne : enc (outOf false d) = (s.take (p + 1 + a)).drop p := by rw [HS.out] at HI; exact HI.out.2 hl
          have hq : (enc (outOf false d) == (s.take (p + 1 + a)).drop p) = true := by rw [beq_iff_eq]; exact hne
          have HLE := Lib.hid hdl2
          clear HR HI hne hl hdl2
          unfold outOf at hq HB
          simp only [Bool.false_eq_true, if_false] at hq HB
          generalize val d = N at *
          have hc0 := Up.cell (rd0 HT2.out.here)
          have hc1 := Up.cell (rd1 HT2.out.here)
          have hw := wrapi (x := (N : Int)) (by omega) (by omega)
          go_wp2
          refine wp_region_up (by kernel_rfl) (by kernel_rfl) ?_
          repeat (go_big_quiet_step ((go_at_call 96; exact Up.call (integer_any _ _ (by omega) (by omega)))))
          refine wpQuiet_nil ?_
          rintro w3 ⟨U, rfl⟩
          have HTU := Lib.hid (HT2.out.of_below U.ext.below)
          go_wp2
          go_ret
          exact RdPost.mk HB.out (by omega) HTU.out (fun _ => by have := HLE.out; omega)

/-- neg: the string ends too early -/
theorem integer_short_neg (s : List UInt8) (p k j : Nat) (w : World) (hs : s.length ≤ 140737488355328) (hp : p < s.length) (hj : j ≤ 8) (hc : s[p].toNat = 127 - j) (ht : (s.drop (p + 1)).length < j) (h : w.heap[k]? = some (rdO s p 0)) :
    Calls Tryz.prog 103 #[.pointer (some ⟨k, 0, none⟩)] w (RdPost s p k w) := by
  have hh : s[p] = if true then headN j else headP j := UInt8.toNat_inj.1 (by rw [if_pos rfl, headN_nat hj]; exact hc)
  have HR := Lib.hid (show rdI (s.drop p) = (0, 0, 11) by rw [drop_at s p hp, rdI_head s[p] _ true j hj hh, if_pos ht])
  have hlen : s.length < p + 1 + j := by simp at ht; omega
  have h1 := rd1 h
  have HH := Lib.hid h
  have hb := s[p].toNat_lt
  have HC := Lib.hid hc
  clear h hh ht hc
  go_enter Tryz.func103, Tryz.ntmps103
  go_wp2_with fail
  refine (next_yes s p 0 k _ (by unfold maxLen; omega) hp HH.out).mono ?_
  rintro r w1 ⟨rfl, hT⟩
  have h2 := rd2 hT.here
  have HT := Lib.hid hT
  clear hT
  rw [show ((s[p].toNat : Nat) : Int) = 127 - (j : Int) from by have := HC.out; omega]
  have hd1 : decide (127 - (j : Int) ≤ 127) = true := by simp; omega
  go_wp2
  rw [show (127 - (127 - (j : Int)) : Int) = (j : Int) from by omega]
  go_loopw [7, 34] (fun n i wr => ∃ (a : Nat) (m : Int) (q : Nat) (e : Int), i = .int .i64 a ∧ a ≤ j ∧ n = .int .u64 m ∧ q ≤ s.length ∧ Turn k (rdO s q e) w wr ∧ ((e = 0 ∧ q = p + 1 + a) ∨ e = 11)) (fun _ i _ => j - (intOf i).toNat)
  case atStart => exact ⟨0, 0, p + 1, 0, rfl, by omega, rfl, by omega, HT.out, .inl ⟨rfl, rfl⟩⟩
  case round =>
    obtain ⟨a, m, q, e, rfl, ha, rfl, hq, hT, he⟩ := hrel
    have HT2 := Lib.hid hT
    have HE := Lib.hid he
    clear hT he
    by_cases hlt : a < j
    · by_cases hq2 : q < s.length
      · go_wp2_with fail
        refine (next_yes s q e k _ (by unfold maxLen; omega) hq2 HT2.out.here).mono ?_
        rintro r w2 ⟨rfl, hT3⟩
        have HT3 := Lib.hid (HT2.out.trans hT3)
        clear hT3
        have hbq := s[q].toNat_lt
        go_wp2
        go_roundw
        case rel => exact ⟨a + 1, _, q + 1, e, by go_num, by omega, rfl, by omega, HT3.out, by have := HE.out; omega⟩
        case measure => simp [intOf]; omega
      · go_wp2_with fail
        refine (next_no s q e k _ (by unfold maxLen; omega) (by omega) (by unfold maxLen; omega) HT2.out.here).mono ?_
        rintro r w2 ⟨rfl, hT3⟩
        have HT3 := Lib.hid (HT2.out.trans hT3)
        clear hT3
        have hfe : ferr e 11 = 11 := by unfold ferr; have := HE.out; split <;> omega
        have HF := Lib.hid hfe
        clear hfe
        go_wp2
        go_roundw
        case rel => exact ⟨a + 1, _, q, 11, by go_num, by omega, rfl, by omega, by rw [← HF.out]; exact HT3.out, .inr rfl⟩
        case measure => simp [intOf]; omega
    · have he : e = 11 := by have := HE.out; omega
      subst he
      have h2 := rd2 HT2.out.here
      go_wp2
      go_ret
      exact RdPost.mk HR.out hq HT2.out (by omega)

theorem dg_snoc_neg (c : List UInt8) (a : Nat) (h : a < c.length) : dg true (c.take (a + 1)) = dg true (c.take a) ++ [255 - c[a]] := by
  exact map_take_snoc c _ a h

/-- neg: the bytes are there -/
theorem integer_full_neg (s : List UInt8) (p k j : Nat) (w : World) (hs : s.length ≤ 140737488355328) (hp : p < s.length) (hj : j ≤ 8) (hc : s[p].toNat = 127 - j) (ht : j ≤ (s.drop (p + 1)).length) (h : w.heap[k]? = some (rdO s p 0)) :
    Calls Tryz.prog 103 #[.pointer (some ⟨k, 0, none⟩)] w (RdPost s p k w) := by
  have hh : s[p] = if true then headN j else headP j := UInt8.toNat_inj.1 (by rw [if_pos rfl, headN_nat hj]; exact hc)
  have HR := Lib.hid (show rdI (s.drop p) = rdB true (dg true ((s.drop (p + 1)).take j)) by rw [drop_at s p hp, rdI_head s[p] _ true j hj hh, if_neg (by omega)])
  have hlen : p + 1 + j ≤ s.length := by simp at ht; omega
  have hcl : ((s.drop (p + 1)).take j).length = j := by simp; omega
  have HI := Lib.hid (enc_iff true s[p] ((s.drop (p + 1)).take j) (by omega) (by rw [hcl]; exact hh))
  have HS := Lib.hid (show s[p] :: (s.drop (p + 1)).take j = (s.take (p + 1 + j)).drop p by
    rw [List.drop_take, drop_at s p hp, show p + 1 + j - p = j + 1 by omega, List.take_succ_cons])
  have HG := Lib.hid (show ∀ a, a < j → dg true ((s.drop (p + 1)).take (a + 1)) = dg true ((s.drop (p + 1)).take a) ++ [255 - s[p + 1 + a]?.getD 0] by
    intro a ha
    rw [dg_snoc_neg _ a (by simp; omega)]
    simp [List.getElem_drop, show p + 1 + a < s.length by omega])
  have h1 := rd1 h
  have HH := Lib.hid h
  have HL := Lib.hid ht
  have hb := s[p].toNat_lt
  have HC := Lib.hid hc
  clear h hh ht hc hcl
  generalize (s.drop (p + 1)) = t at *
  go_enter Tryz.func103, Tryz.ntmps103
  go_wp2_with fail
  refine (next_yes s p 0 k _ (by unfold maxLen; omega) hp HH.out).mono ?_
  rintro r w1 ⟨rfl, hT⟩
  have h2 := rd2 hT.here
  have HT := Lib.hid hT
  clear hT
  rw [show ((s[p].toNat : Nat) : Int) = 127 - (j : Int) from by have := HC.out; omega]
  have hd1 : decide (127 - (j : Int) ≤ 127) = true := by simp; omega
  go_wp2
  rw [show (127 - (127 - (j : Int)) : Int) = (j : Int) from by omega]
  go_loopw [7, 34] (fun n i wr => ∃ (a : Nat), i = .int .i64 a ∧ a ≤ j ∧ n = .int .u64 (val (dg true (t.take a)) : Int) ∧ Turn k (rdO s (p + 1 + a) 0) w wr) (fun _ i _ => j - (intOf i).toNat)
  case atStart => exact ⟨0, rfl, by omega, by simp [dg, val], HT.out⟩
  case round =>
    obtain ⟨a, rfl, ha, rfl, hT⟩ := hrel
    have HT2 := Lib.hid hT
    clear hT
    by_cases hlt : a < j
    · have hm : val (dg true (t.take a)) < 2 ^ 56 := by
        have h1 := val_lt (dg true (t.take a))
        have h2 : (dg true (t.take a)).length ≤ 7 := by rw [dg_len, List.length_take]; omega
        have h3 : 256 ^ (dg true (t.take a)).length ≤ 256 ^ 7 := Nat.pow_le_pow_right (by omega) h2
        omega
      have hg := HG.out a hlt
      have hq2 : p + 1 + a < s.length := by omega
      generalize hM : val (dg true (t.take a)) = m at *
      have HV := Lib.hid (show val (dg true (t.take (a + 1))) = m * 256 + (255 - s[p + 1 + a]).toNat by rw [hg, val_snoc, hM]; simp [hq2])
      have ho := or_u64 m (255 - s[p + 1 + a]) hm
      have hos := Lib.hid (sub255 s[p + 1 + a])
      rw [hos.out] at ho
      clear hg hM
      have hbq := s[p + 1 + a].toNat_lt
      go_wp2_with fail
      refine (next_yes s (p + 1 + a) 0 k _ (by unfold maxLen; omega) hq2 HT2.out.here).mono ?_
      rintro r w2 ⟨rfl, hT3⟩
      have HT3 := Lib.hid (HT2.out.trans hT3)
      clear hT3
      go_wp2
      go_roundw
      case rel => exact ⟨a + 1, by go_num, by omega, by rw [HV.out]; exact int_eq (by have := hos.out; omega), HT3.out⟩
      case measure => simp [intOf]; omega
    · obtain rfl : a = j := by omega
      clear HG HC HH hlt
      have hdl : (dg true (t.take a)).length ≤ 8 := by rw [dg_len, List.length_take]; omega
      have hN8 := val_lt8 hdl
      generalize hD : dg true (t.take a) = d at *
      have HD := Lib.hid hD
      clear hD
      have h2 := rd2 HT2.out.here
      by_cases hbig : 4611686018427387904 ≤ val d
      · have HB := Lib.hid (show rdI (s.drop p) = (0, 0, 12) by rw [HR.out, rdB, if_pos (by simp; omega)])
        clear HR HI hdl HD
        generalize val d = N at *
        rcases Nat.lt_or_ge 4611686018427387904 N with hgt | hle
        · have hd3 : decide ((4611686018427387904 : Int) < (N : Int)) = true := by simp; omega
          go_wp2_with fail
          refine (fail_any s (p + 1 + a) 0 12 k _ HT2.out.here).mono ?_
          rintro r w2 ⟨rfl, hT3⟩
          rw [ferr0] at hT3
          have HT3 := Lib.hid (HT2.out.trans hT3)
          clear hT3
          go_wp2
          go_ret
          exact RdPost.mk HB.out (by omega) HT3.out (by omega)
        · have hd3 : decide ((4611686018427387904 : Int) < (N : Int)) = false := by simp; omega
          have hd4 : decide ((4611686018427387904 : Int) ≤ (N : Int)) = true := by simp; omega
          go_wp2_with fail
          refine (fail_any s (p + 1 + a) 0 12 k _ HT2.out.here).mono ?_
          rintro r w2 ⟨rfl, hT3⟩
          rw [ferr0] at hT3
          have HT3 := Lib.hid (HT2.out.trans hT3)
          clear hT3
          go_wp2
          go_ret
          exact RdPost.mk HB.out (by omega) HT3.out (by omega)
      · cases hl : lead d with
        | true =>
          have HB := Lib.hid (show rdI (s.drop p) = (0, 0, 12) by rw [HR.out, rdB, if_pos (by simp [hl])])
          have hne : enc (outOf true d) ≠ (s.take (p + 1 + a)).drop p := fun e => by rw [HS.out] at HI; exact absurd (HI.out.1 e) (by rw [hl]; simp)
          have hq : (enc (outOf true d) == (s.take (p + 1 + a)).drop p) = false := by rw [beq_eq_false_iff_ne]; exact hne
          clear HR HI hne hl
          unfold outOf at hq
          simp only [if_true] at hq
          generalize val d = N at *
          have hc0 := Up.cell (rd0 HT2.out.here)
          have hc1 := Up.cell (rd1 HT2.out.here)
          have hw := wrapi (x := (N : Int)) (by omega) (by omega)
          go_wp2
          refine wp_region_up (by kernel_rfl) (by kernel_rfl) ?_
          repeat (go_big_quiet_step ((go_at_call 96; exact Up.call (integer_any _ _ (by omega) (by omega)))))
          refine wpQuiet_nil ?_
          rintro w3 ⟨U, rfl⟩
          have HTU := Lib.hid (HT2.out.of_below U.ext.below)
          go_wp2_with fail
          refine (fail_any s (p + 1 + a) 0 12 k _ HTU.out.here).mono ?_
          rintro r w2 ⟨rfl, hT3⟩
          rw [ferr0] at hT3
          have HT3 := Lib.hid (HTU.out.trans hT3)
          clear hT3
          go_wp2
          go_ret
          exact RdPost.mk HB.out (by omega) HT3.out (by omega)
        | false =>
          have hdl2 : d.length = a := by rw [← HD.out, dg_len, List.length_take]; have := HL.out; omega
          have HB := Lib.hid (show rdI (s.drop p) = (outOf true d, 1 + d.length, 0) by rw [HR.out, rdB, if_neg (by simp [hl]; omega)]; rfl)
          have hne : enc (outOf true d) = (s.take (p + 1 + a)).drop p := by rw [HS.out] at HI; exact HI.out.2 hl
          have hq : (enc (outOf true d) == (s.take (p + 1 + a)).drop p) = true := by rw [beq_iff_eq]; exact hne
          have HLE := Lib.hid hdl2
          clear HR HI hne hl hdl2
          unfold outOf at hq HB
          simp only [if_true] at hq HB
          generalize val d = N at *
          have hc0 := Up.cell (rd0 HT2.out.here)
          have hc1 := Up.cell (rd1 HT2.out.here)
          have hw := wrapi (x := (N : Int)) (by omega) (by omega)
          go_wp2
          refine wp_region_up (by kernel_rfl) (by kernel_rfl) ?_
          repeat (go_big_quiet_step ((go_at_call 96; exact Up.call (integer_any _ _ (by omega) (by omega)))))
          refine wpQuiet_nil ?_
          rintro w3 ⟨U, rfl⟩
          have HTU := Lib.hid (HT2.out.of_below U.ext.below)
          go_wp2
          go_ret
          exact RdPost.mk HB.out (by omega) HTU.out (fun _ => by have := HLE.out; omega)

theorem head_cases (c : UInt8) (h : ¬ (c.toNat < 119 ∨ 136 < c.toNat)) : (∃ j, j ≤ 8 ∧ c.toNat = 128 + j) ∨ (∃ j, j ≤ 8 ∧ c.toNat = 127 - j) := by
  by_cases h1 : c.toNat < 128
  · exact .inr ⟨127 - c.toNat, by omega, by omega⟩
  · exact .inl ⟨c.toNat - 128, by omega, by omega⟩

/-- codec.reader.integer, at a reader without an error -/
theorem integer_rd (s : List UInt8) (p k : Nat) (w : World) (hs : s.length ≤ 140737488355328) (hp : p ≤ s.length) (h : w.heap[k]? = some (rdO s p 0)) :
    Calls Tryz.prog 103 #[.pointer (some ⟨k, 0, none⟩)] w (RdPost s p k w) := by
  by_cases h0 : s.length ≤ p
  · exact integer_end s p k w hs h0 hp h
  · have hp' : p < s.length := by omega
    by_cases hc : s[p].toNat < 119 ∨ 136 < s[p].toNat
    · exact integer_bad s p k w hs hp' hc h
    · rcases head_cases _ hc with ⟨j, hj, hc2⟩ | ⟨j, hj, hc2⟩
      · by_cases ht : (s.drop (p + 1)).length < j
        · exact integer_short_pos s p k j w hs hp' hj hc2 ht h
        · exact integer_full_pos s p k j w hs hp' hj hc2 (by omega) h
      · by_cases ht : (s.drop (p + 1)).length < j
        · exact integer_short_neg s p k j w hs hp' hj hc2 ht h
        · exact integer_full_neg s p k j w hs hp' hj hc2 (by omega) h

/-- codec.ReadInt -/
def rdV (s : List UInt8) : Value := .tuple #[.int .i64 (rdI s).1, .int .i64 ((rdI s).2.1 : Int), .int .i64 (rdI s).2.2]
theorem rdV_err {s : List UInt8} (h : (rdI s).2.2 ≠ 0) : rdV s = .tuple #[.int .i64 0, .int .i64 0, .int .i64 (rdI s).2.2] := by
  rcases rdI_err s with h1 | ⟨h1, h2, _⟩
  · exact absurd h1 h
  · unfold rdV; rw [h1, h2]; rfl

theorem ReadInt_any (s : List UInt8) (w : World) (hs : s.length ≤ 140737488355328) : Gives Tryz.prog 70 #[sV s] w (rdV s) := by
  have HI := Lib.hid (fun W h => integer_rd s 0 w.heap.size W hs (Nat.zero_le _) h)
  unfold Gives
  go_enter Tryz.func70, Tryz.ntmps70
  go_wp2_with fail
  refine (HI.out _ (alloc_here _ _)).mono ?_
  rintro r w1 ⟨q, rfl, hq, hT, hz⟩
  rw [List.drop_zero] at hT hz ⊢
  have HB := Lib.hid (((Below.refl _ w).alloc (Nat.le_refl _) _).trans (hT.below (Nat.le_refl _) (by simp)))
  have h1 := rd1 hT.here
  have h2 := rd2 hT.here
  clear hT
  by_cases he : (rdI s).2.2 = 0
  · have HV := Lib.hid (show rdV s = .tuple #[.int .i64 (rdI s).1, .int .i64 q, .int .i64 0] by unfold rdV; rw [he, hz he, Nat.zero_add])
    rw [he] at h2
    clear he hz
    go_wp2
    go_quiet (fail)
    go_wp2
    go_ret3
    rw [HV.out]
    exact ⟨rfl, Ext.drewN' HB.out⟩
  · have HV := Lib.hid (rdV_err he)
    have hb : ((rdI s).2.2 == 0) = false := by rw [beq_eq_false_iff_ne]; exact he
    have hb2 : ((rdI s).2.2 != 0) = true := by rw [bne_iff_ne]; exact he
    clear hz he
    go_wp2
    go_quiet (fail)
    go_wp2
    go_ret3
    rw [HV.out]
    exact ⟨rfl, Ext.drewN' HB.out⟩

end Go.Proofs.YtfkjokbhnblndaaGreatDoor

namespace Go.Proofs.YtfkjokbhnblndaaGreatDoor
open Go.RowKit
set_option linter.unusedVariables false

/-- v is a slice of bytes of the call's own (its block from base on, or nil), holding l -/
def Row8 (base : Nat) (v : Value) (l : List UInt8) (w : World) : Prop := w.ownsRow base 5 1 v l.length (bsV l)
theorem Row8.nil (base : Nat) (w : World) : Row8 base (.slice none 0 0) [] w := World.ownsRow_nil _ _ _ _
theorem Row8.ext {base : Nat} {v : Value} {l : List UInt8} {w w' : World} (h : Row8 base v l w) (hb : Below w.heap.size w w') : Row8 base v l w' := ownsRow_extB h hb
theorem Row8.forms {base : Nat} {v : Value} {l : List UInt8} {w : World} (h : Row8 base v l w) : (v = .slice none 0 0 ∧ l.length = 0) ∨ ∃ g cap, v = .slice (some ⟨g, 0, none⟩) l.length cap := Go.Joins.ownsRow_forms h
theorem Row8.conv {base : Nat} {v : Value} {l : List UInt8} {w : World} (h : Row8 base v l w) : (convert 42 9 v).run Tryz.prog w = .ok (sV l) w := by
  rcases h.forms with ⟨rfl, h0⟩ | ⟨g, cap, rfl⟩
  · obtain rfl := List.eq_nil_of_length_eq_zero h0
    kernel_rfl
  · exact conv_own rfl h

theorem bytes_one (c : UInt8) (n : Int) (hn : (c.toNat : Int) = n) : [Value.int .u8 n] = bsV [c] := by subst hn; rfl

variable {ops : Array Oper} {rest : List Oper} {o : Oper} {a : Act} {Q : Exit → Act → World → Prop}

theorem wp_app8 (hgd : o.guard = none) (s x : Operand) (ho : o.op = .call { callee := .builtin .append, args := #[s, x], argTypes := #[42, 42] })
    (base : Nat) (v : Value) (l : List UInt8) (hs : a.eval s = v) (W : World) (h : Row8 base v l W) (c : UInt8) (n : Int) (hn : (c.toNat : Int) = n) (hx : a.eval x = .slice (some ⟨W.heap.size, 0, none⟩) 1 1) (hlen : l.length ≤ 100000000000) (hbase : base ≤ W.heap.size)
    (hK : ∀ v' w', Row8 base v' (l ++ [c]) w' → Below base W w' → wpList Tryz.prog ops Q rest (a.put o.dst v') w') : wpList Tryz.prog ops Q (o :: rest) a (W.alloc (.cells #[.int .u8 n] 5)) := by
  obtain ⟨i0, hi, hz0, hz1, hz2⟩ := info_parts infoB
  refine wpList_append_own _ hgd s x 42 ho base 5 i0 (.int .u8 0) 1 1 Tryz.underlying42 hi hz0 hz1 hz2 rfl (by decide) v l.length (bsV l) hs (World.ownsRow.alloc h _) ⟨W.heap.size, 0, none⟩ 1 1 [.int .u8 n] hx rfl (cell_one_new _ _ _) (by simp [Value.oneCell']) (by unfold maxLen; omega) (by omega) (by simp; omega) ?_
  intro v' w' hown hg _
  refine hK v' w' ?_ ?_
  · unfold Row8
    rw [bytes_one c n hn, bsV_add] at hown
    simpa using hown
  · exact ((Below.refl base W).alloc hbase _).grown hg (by simp; omega) (fun k e => (World.ownsRow.lt h k e).1)

/-- v is a slice of integers of the call's own, holding l -/
def RowI (base : Nat) (v : Value) (l : List Int) (w : World) : Prop := w.ownsRow base 3 1 v l.length (l.map (Value.int .i64))
theorem infoI' : (Tryz.prog.info? 3).map (fun i => (i.zero, i.size, i.bytes)) = some (some (.int .i64 0), 1, 8) := by kernel_rfl
theorem RowI.nil (base : Nat) (w : World) : RowI base (.slice none 0 0) [] w := World.ownsRow_nil _ _ _ _
theorem RowI.ext {base : Nat} {v : Value} {l : List Int} {w w' : World} (h : RowI base v l w) (hb : Below w.heap.size w w') : RowI base v l w' := ownsRow_extB h hb
theorem RowI.forms {base : Nat} {v : Value} {l : List Int} {w : World} (h : RowI base v l w) : (v = .slice none 0 0 ∧ l.length = 0) ∨ ∃ g cap, v = .slice (some ⟨g, 0, none⟩) l.length cap := Go.Joins.ownsRow_forms h
theorem RowI.ints {base : Nat} {v : Value} {l : List Int} {w : World} (h : RowI base v l w) : ∃ x c, v = .slice x l.length c ∧ IntsAt w x l ∧ (∀ y, x = some y → base ≤ y.block) ∧ (x = none → c = 0) := by
  rcases h.forms with ⟨rfl, h0⟩ | ⟨g, cap, rfl⟩
  · obtain rfl := List.eq_nil_of_length_eq_zero h0
    exact ⟨none, 0, rfl, IntsAt.nil, (fun y e => by cases e), fun _ => rfl⟩
  · refine ⟨_, _, rfl, fun i hi => ⟨_, _, rfl, ?_⟩, (fun y e => by cases e; exact (World.ownsRow.lt h g rfl).1), (fun e => by cases e)⟩
    rw [Nat.zero_add, World.ownsRow.cellAt h i (by omega)]
    simp [hi]

theorem wp_appI (hgd : o.guard = none) (s x : Operand) (ho : o.op = .call { callee := .builtin .append, args := #[s, x], argTypes := #[29, 29] })
    (base : Nat) (v : Value) (l : List Int) (hs : a.eval s = v) (W : World) (h : RowI base v l W) (n : Int) (hx : a.eval x = .slice (some ⟨W.heap.size, 0, none⟩) 1 1) (hlen : l.length ≤ 10000000000) (hbase : base ≤ W.heap.size)
    (hK : ∀ v' w', RowI base v' (l ++ [n]) w' → Below base W w' → wpList Tryz.prog ops Q rest (a.put o.dst v') w') : wpList Tryz.prog ops Q (o :: rest) a (W.alloc (.cells #[.int .i64 n] 3)) := by
  obtain ⟨i0, hi, hz0, hz1, hz2⟩ := info_parts infoI'
  refine wpList_append_own _ hgd s x 29 ho base 3 i0 (.int .i64 0) 1 8 Tryz.underlying29 hi hz0 hz1 hz2 rfl (by decide) v l.length (l.map (Value.int .i64)) hs (World.ownsRow.alloc h _) ⟨W.heap.size, 0, none⟩ 1 1 [.int .i64 n] hx rfl (cell_one_new _ _ _) (by simp [Value.oneCell']) (by unfold maxLen; omega) (by omega) (by simp; omega) ?_
  intro v' w' hown hg _
  refine hK v' w' ?_ ?_
  · unfold RowI
    simpa using hown
  · exact ((Below.refl base W).alloc hbase _).grown hg (by simp; omega) (fun k e => (World.ownsRow.lt h k e).1)

end Go.Proofs.YtfkjokbhnblndaaGreatDoor

namespace Go.Proofs.YtfkjokbhnblndaaGreatDoor
open Go.RowKit
set_option linter.unusedVariables false

theorem Turn.of_low {k : Nat} {o : Obj} {a w w' : World} (h : Turn k o a w) (hb : Below a.heap.size w w') (hk : k < a.heap.size) : Turn k o a w' :=
  ⟨hb.os.trans h.os, hb.tape.trans h.tape, hb.output.trans h.output, Nat.le_trans h.size hb.size, (hb.block k hk).trans h.here, fun j hj hk => (hb.block j hj).trans (h.other j hj hk)⟩
theorem ownsRow_turn {base : Nat} {e : TypeId} {n : Nat} {v : Value} {m : Nat} {xs : List Value} {k : Nat} {o : Obj} {w w' : World} (h : w.ownsRow base e n v m xs) (hT : Turn k o w w') (hk : k < base) : w'.ownsRow base e n v m xs :=
  h.kept (row := some k) ⟨hT.os, hT.tape, hT.output, hT.size, fun i hi hne => hT.other i hi (fun e => hne (by rw [e]))⟩ (by
    cases hv : v.ownBlock with
    | none => exact .inl rfl
    | some j => exact .inr (fun e => by cases e; have := (h.lt k hv).1; omega))
theorem Row8.turn {base : Nat} {v : Value} {l : List UInt8} {k : Nat} {o : Obj} {w w' : World} (h : Row8 base v l w) (hT : Turn k o w w') (hk : k < base) : Row8 base v l w' := ownsRow_turn h hT hk
theorem RowI.turn {base : Nat} {v : Value} {l : List Int} {k : Nat} {o : Obj} {w w' : World} (h : RowI base v l w) (hT : Turn k o w w') (hk : k < base) : RowI base v l w' := ownsRow_turn h hT hk

theorem Row8.slice {base : Nat} {v : Value} {l : List UInt8} {w : World} (h : Row8 base v l w) : ∃ x c, v = .slice x l.length c := by
  rcases h.forms with ⟨rfl, h0⟩ | ⟨g, cap, rfl⟩
  · exact ⟨none, 0, by rw [h0]⟩
  · exact ⟨_, _, rfl⟩
theorem RowI.slice {base : Nat} {v : Value} {l : List Int} {w : World} (h : RowI base v l w) : ∃ x c, v = .slice x l.length c := by
  rcases h.forms with ⟨rfl, h0⟩ | ⟨g, cap, rfl⟩
  · exact ⟨none, 0, by rw [h0]⟩
  · exact ⟨_, _, rfl⟩

theorem byte_ne {c : UInt8} (n : Nat) (h : c ≠ UInt8.ofNat n) (hn : n < 256) : ((c.toNat : Int) == (n : Int)) = false := by
  rw [beq_eq_false_iff_ne]; intro e
  apply h
  apply UInt8.toNat_inj.1
  simp; omega

end Go.Proofs.YtfkjokbhnblndaaGreatDoor

namespace Go.Proofs.YtfkjokbhnblndaaGreatDoor
open Go.RowKit
attribute [local go_sem] sB_extract
set_option linter.unusedVariables false

/-- what list leaves: the list (nil if there is an error), and the reader -/
def LsPost (s : List UInt8) (k : Nat) (w : World) (e : Ending) (w' : World) : Prop :=
  ∃ x c q, e = .returned (.slice x (rdL s).1.length c) ∧ RowI w.heap.size (.slice x (rdL s).1.length c) (rdL s).1 w' ∧ Turn k (rdO s q (rdL s).2.2) w w' ∧ q ≤ s.length ∧ ((rdL s).2.2 = 0 → q = (rdL s).2.1)
theorem LsPost.err {s : List UInt8} {k q : Nat} {e : Int} {w w' : World} (h : (rdL s).2.2 = e) (he : e ≠ 0) (hT : Turn k (rdO s q e) w w') (hq : q ≤ s.length) : LsPost s k w (.returned (.slice none 0 0)) w' := by
  obtain ⟨h1, _⟩ := rdL_err (s := s) (by omega)
  refine ⟨none, 0, q, by rw [h1]; rfl, by rw [h1]; exact RowI.nil _ _, by rw [h]; exact hT, hq, fun h0 => by omega⟩
theorem LsPost.ok {s : List UInt8} {l : List Int} {k q z : Nat} {x : Option Addr} {c : Nat} {w w' : World} (h : rdL s = (l, z, 0)) (hI : RowI w.heap.size (.slice x l.length c) l w') (hT : Turn k (rdO s q 0) w w') (hq : q ≤ s.length) (hz : q = z) : LsPost s k w (.returned (.slice x l.length c)) w' := by
  refine ⟨x, c, q, by rw [h], by rw [h]; exact hI, by rw [h]; exact hT, hq, fun _ => by rw [h]; exact hz⟩

theorem rdA_step {f : Nat} {acc : List Int} {at_ : Nat} {c : UInt8} {t : List UInt8} (h1 : c ≠ 1) (h2 : acc.length ≠ 20000) (h3 : (rdI (c :: t)).2.2 = 0) : rdA (f + 1) acc at_ (c :: t) = rdA f (acc ++ [(rdI (c :: t)).1]) (at_ + (rdI (c :: t)).2.1) ((c :: t).drop (rdI (c :: t)).2.1) := by
  rw [rdA, if_neg h1, if_neg h2, if_neg (by omega)]
theorem rdA_bad {f : Nat} {acc : List Int} {at_ : Nat} {c : UInt8} {t : List UInt8} (h1 : c ≠ 1) (h2 : acc.length ≠ 20000) (h3 : (rdI (c :: t)).2.2 ≠ 0) : rdA (f + 1) acc at_ (c :: t) = ([], 0, (rdI (c :: t)).2.2) := by
  rw [rdA, if_neg h1, if_neg h2, if_pos h3]

theorem integer_err (s : List UInt8) (p k : Nat) (e : Int) (w : World) (hs : s.length ≤ 140737488355328) (hp : p < s.length) (he : e ≠ 0) (h : w.heap[k]? = some (rdO s p e)) :
    Calls Tryz.prog 103 #[.pointer (some ⟨k, 0, none⟩)] w fun r w' => r = .returned (.int .i64 0) ∧ Turn k (rdO s (p + 1) e) w w' := by
  have h1 := rd1 h
  have HH := Lib.hid h
  have hb := s[p].toNat_lt
  have g1 : (e == 0) = false := by rw [beq_eq_false_iff_ne]; exact he
  have g2 : (e != 0) = true := by rw [bne_iff_ne]; exact he
  clear h he
  go_enter Tryz.func103, Tryz.ntmps103
  go_wp2_with fail
  refine (next_yes s p e k _ (by unfold maxLen; omega) hp HH.out).mono ?_
  rintro r w1 ⟨rfl, hT⟩
  have h2 := rd2 hT.here
  have HT := Lib.hid hT
  clear hT
  go_wp2
  go_ret
  exact ⟨rfl, HT.out⟩
set_option maxRecDepth 100000 in
set_option maxHeartbeats 8000000 in
theorem list_any (s : List UInt8) (k : Nat) (w : World) (hs : s.length ≤ 10000000) (h : w.heap[k]? = some (rdO s 0 0)) :
    Calls Tryz.prog 213 #[.pointer (some ⟨k, 0, none⟩), .func (.func 103) #[.pointer (some ⟨k, 0, none⟩)] #[]] w (LsPost s k w) := by
  have hk := lt_of_block h
  have hT0 := Lib.hid (Turn.refl h)
  clear h
  go_enter Tryz.func213, Tryz.ntmps213
  go_wp2
  go_loopg [5] s.length (fun n v wr => ∃ (p f : Nat) (acc : List Int), n + p = s.length ∧ s.length ≤ p + f ∧ acc.length ≤ p ∧ acc.length ≤ 20000 ∧ rdL s = rdA (f + 1) acc p (s.drop p) ∧ Turn k (rdO s p 0) w wr ∧ RowI w.heap.size v acc wr)
  case atStart => exact ⟨0, s.length, [], by omega, by omega, by simp, by simp, rfl, hT0.out, RowI.nil _ _⟩
  case round =>
    obtain ⟨p, f, acc, hp, hf, hacc, hacc2, hX, hT, hR⟩ := hrel
    have HP := Lib.hid hp
    have hple : p ≤ s.length := by omega
    have HX := Lib.hid hX
    have HT := Lib.hid hT
    have HR := Lib.hid hR
    have e0 := rd0 hT.here
    have e1 := rd1 hT.here
    clear hX hT hR hp
    by_cases hlt : p < s.length
    · have hd := Lib.hid (List.drop_eq_getElem_cons hlt)
      have q1 : decide ((p : Int) < (s.length : Int)) = true := by simp; omega
      have q2 : (0 : Int) ≤ (p : Int) := by omega
      by_cases hc : s[p] = 1
      · have b0 : ((s[p].toNat : Int) == 1) = true := by rw [hc]; rfl
        have HZ := Lib.hid (show rdL s = (acc, p + 1, 0) by rw [HX.out, hd.out, rdA, if_pos hc])
        have f1 := rdf 1 HT.out.here
        have T1 := HT.out.setCell (i := 1) (.int .i64 ((p : Int) + 1))
        rw [rdO_step] at T1
        have T1 := Lib.hid T1
        obtain ⟨x, cap, rfl, hI, -, hx⟩ := HR.out.ints
        have HI := Lib.hid hI
        have Hx := Lib.hid hx
        have HR1 := Lib.hid (show RowI w.heap.size (.slice x acc.length cap) acc (wr.setCell ⟨k, 1, none⟩ (.int .i64 ((p : Int) + 1))) from World.ownsRow.kept HR.out (row := some k) ⟨rfl, rfl, rfl, by simp [World.setCell], fun j _ hj => Below.heap_setCell _ _ _ _ (fun e => hj (by simp [e]))⟩ (by
          cases hv : (Value.slice x acc.length cap).ownBlock with
          | none => exact .inl rfl
          | some j => exact .inr (fun e => by cases e; have := (World.ownsRow.lt HR.out k hv).1; omega)))
        clear hI hx hc
        go_wp2
        go_quiet (fail)
        go_wp2
        go_ret
        exact LsPost.ok HZ.out (show RowI _ _ _ _ from HR1.out) ⟨T1.out.os, T1.out.tape, T1.out.output, T1.out.size, T1.out.here, T1.out.other⟩ (by omega) rfl
      · have b0 : ((s[p].toNat : Int) == 1) = false := byte_ne 1 hc (by omega)
        by_cases hl : acc.length = 20000
        · have bl : ((acc.length : Int) == 20000) = true := by rw [beq_iff_eq]; omega
          have HZ := Lib.hid (show (rdL s).2.2 = 4 by rw [HX.out, hd.out, rdA, if_neg hc, if_pos hl])
          obtain ⟨x, cap, hv, -, -, -⟩ := HR.out.ints
          subst hv
          clear hc hl
          go_wp2
          go_quiet (fail)
          go_wp2
          go_quiet (fail)
          go_wp2_with fail
          refine (fail_any s p 0 4 k _ (by simpa using HT.out.here)).mono ?_
          rintro r w1 ⟨rfl, hT1⟩
          rw [ferr0] at hT1
          have HT1 := Lib.hid (HT.out.trans hT1.undrewN)
          clear hT1
          go_wp2_with fail
          refine (integer_err s p k 4 _ (by omega) hlt (by decide) HT1.out.here).mono ?_
          rintro r w2 ⟨rfl, hT2⟩
          have HT2 := Lib.hid (HT1.out.trans hT2)
          have e2 := rd2 hT2.here
          clear hT2 e0 e1
          go_wp2
          go_ret
          exact LsPost.err HZ.out (by decide) HT2.out (by omega)
        · have bl : ((acc.length : Int) == 20000) = false := by rw [beq_eq_false_iff_ne]; omega
          have HC := Lib.hid hc
          have HL := Lib.hid hl
          obtain ⟨x, cap, hv, -, -, -⟩ := HR.out.ints
          subst hv
          clear hc hl
          have I := Lib.hid (fun W (hW : W.heap[k]? = some (rdO s p 0)) => integer_rd s p k W (by omega) hple hW)
          go_wp2
          go_quiet (fail)
          go_wp2
          go_quiet (fail)
          go_wp2_with fail
          refine (I.out _ (by simpa using HT.out.here)).mono ?_
          rintro r w1 ⟨q, rfl, hq, hT1, hz⟩
          have HR1 := Lib.hid (HR.out.turn hT1.undrewN hk)
          have HT1 := Lib.hid (HT.out.trans hT1.undrewN)
          have e2 := rd2 hT1.here
          clear hT1 e0 e1
          have hz1 := HT1.out.size
          by_cases he : (rdI (s.drop p)).2.2 = 0
          · have HZ := Lib.hid (show rdL s = rdA f (acc ++ [(rdI (s.drop p)).1]) (p + (rdI (s.drop p)).2.1) ((s.drop p).drop (rdI (s.drop p)).2.1) by
              have he2 := he
              rw [hd.out] at he2 ⊢
              rw [HX.out, hd.out, rdA_step HC.out HL.out he2])
            have HS := Lib.hid (rdI_size he)
            have HQ := Lib.hid (hz he)
            rw [he] at HT1 e2
            clear he hz
            generalize hn : (rdI (s.drop p)).1 = n at *
            clear hn
            go_wp2_with (at_builtin; go_loud (refine wp_appI rfl _ _ (by rfl) w.heap.size _ _ (by rfl) _ HR1.out n (by rfl) (by omega) hz1 ?_); intro v' w3 hR3 hB3; have HR3 := Lib.hid hR3; have HT3 := Lib.hid (HT1.out.of_low hB3 hk); clear hR3 hB3)
            obtain ⟨f', hf'⟩ : ∃ f', f = f' + 1 := ⟨f - 1, by omega⟩
            have HF := Lib.hid hf'
            have HN := Lib.hid HL.out
            clear hf'
            go_wp2
            go_roundg (s.length - q)
            case measure => have := HS.out; have := HQ.out; have := HP.out; omega
            case rel =>
              have h1 := HS.out
              have h2 := HQ.out
              have h3 := HF.out
              have h4 := HN.out
              have h5 := HZ.out
              rw [List.drop_drop, ← h2, h3] at h5
              exact ⟨q, f', acc ++ [n], by omega, by omega, by simp; omega, by simp; omega, h5, HT3.out, HR3.out⟩
          · have HZ := Lib.hid (show (rdL s).2.2 = (rdI (s.drop p)).2.2 by
              have he2 := he
              rw [hd.out] at he2 ⊢
              rw [HX.out, hd.out, rdA_bad HC.out HL.out he2])
            have HE := Lib.hid he
            have bn : ((rdI (s.drop p)).2.2 != 0) = true := by rw [bne_iff_ne]; exact he
            clear hz he
            go_wp2
            go_ret
            exact LsPost.err HZ.out HE.out HT1.out hq
    · have HZ := Lib.hid (show (rdL s).2.2 = 11 by rw [HX.out, List.drop_eq_nil_of_le (by omega), rdA])
      have q1 : decide ((p : Int) < (s.length : Int)) = false := by simp; omega
      have I := Lib.hid (fun W (hW : W.heap[k]? = some (rdO s p 0)) => integer_rd s p k W (by omega) hple hW)
      have HR0 := Lib.hid (show rdI (s.drop p) = (0, 0, 11) by rw [List.drop_eq_nil_of_le (by omega)]; rfl)
      go_wp2
      go_quiet (fail)
      go_wp2
      go_quiet (fail)
      go_wp2_with fail
      refine (I.out _ (by simpa using HT.out.here)).mono ?_
      rintro r w1 ⟨q, rfl, hq, hT1, hz⟩
      rw [HR0.out] at hT1 ⊢
      have HT1 := Lib.hid (HT.out.trans hT1.undrewN)
      have e2 := rd2 hT1.here
      clear hT1 e0 e1 hz
      go_wp2
      go_ret
      exact LsPost.err HZ.out (by omega) HT1.out hq

/-- a slice of integers, a number and an error -/
def GivesR (P : Program) (f : FuncId) (args : Array Value) (w : World) (r : List Int × Nat × Int) : Prop :=
  Calls P f args w fun en w' => (∃ x c, en = .returned (.tuple #[.slice x r.1.length c, .int .i64 (r.2.1 : Int), .int .i64 r.2.2]) ∧ RowI w.heap.size (.slice x r.1.length c) r.1 w') ∧ Below w.heap.size w w'

set_option maxHeartbeats 2000000 in
theorem ReadList_any (s : List UInt8) (w : World) (hs : s.length ≤ 10000000) : GivesR Tryz.prog 210 #[sV s] w (rdL s) := by
  have HI := Lib.hid (fun W h => list_any s w.heap.size W hs h)
  have HE := Lib.hid (fun he => rdL_err (s := s) he)
  unfold LsPost at HI
  obtain ⟨l, z, e, hr⟩ : ∃ l z e, rdL s = (l, z, e) := ⟨_, _, _, rfl⟩
  rw [hr] at HI HE ⊢
  simp only at HI HE
  unfold GivesR
  simp only
  clear hr
  go_enter Tryz.func210, Tryz.ntmps210
  go_wp2_with fail
  refine (HI.out _ (alloc_here _ _)).mono ?_
  rintro r w1 ⟨x, c, q, rfl, hI, hT, hq, hz⟩
  have HB := Lib.hid (((Below.refl _ w).alloc (Nat.le_refl _) _).trans (hT.below (Nat.le_refl _) (by simp)))
  have h1 := rd1 hT.here
  have h2 := rd2 hT.here
  have HX := Lib.hid hI
  clear hT hI
  by_cases he : e = 0
  · subst he
    have HZ := Lib.hid (hz rfl)
    clear hz HI HE
    go_wp2
    go_quiet (fail)
    go_wp2
    go_ret3
    exact ⟨⟨_, _, by rw [← HZ.out]; rfl, World.ownsRow.mono HX.out (by simp)⟩, Ext.drewN' HB.out⟩
  · have HE2 := Lib.hid (HE.out he)
    have hb : (e == 0) = false := by rw [beq_eq_false_iff_ne]; exact he
    have hb2 : (e != 0) = true := by rw [bne_iff_ne]; exact he
    clear hz he HI HE
    go_wp2
    go_quiet (fail)
    go_wp2
    go_ret3
    exact ⟨⟨none, 0, by rw [HE2.out.1, HE2.out.2]; rfl, by rw [HE2.out.1]; exact RowI.nil _ _⟩, Ext.drewN' HB.out⟩

end Go.Proofs.YtfkjokbhnblndaaGreatDoor

namespace Go.Proofs.YtfkjokbhnblndaaGreatDoor
open Go.RowKit
attribute [local go_sem] sB_extract
set_option linter.unusedVariables false

/-- what text leaves -/
def TxPost (s : List UInt8) (k : Nat) (w : World) (e : Ending) (w' : World) : Prop :=
  e = .returned (sV (rdX s).1) ∧ ∃ q, Turn k (rdO s q (rdX s).2.2) w w' ∧ q ≤ s.length ∧ ((rdX s).2.2 = 0 → q = (rdX s).2.1)
theorem TxPost.mk {s l : List UInt8} {k q z : Nat} {e : Int} {w w' : World} (h : rdX s = (l, z, e)) (hT : Turn k (rdO s q e) w w') (hq : q ≤ s.length) (hz : e = 0 → q = z) : TxPost s k w (.returned (sV l)) w' := by
  unfold TxPost; rw [h]; exact ⟨rfl, q, hT, hq, hz⟩
set_option maxRecDepth 100000 in
set_option maxHeartbeats 8000000 in
theorem text_any (s : List UInt8) (k : Nat) (w : World) (hs : s.length ≤ 10000000) (h : w.heap[k]? = some (rdO s 0 0)) :
    Calls Tryz.prog 214 #[.pointer (some ⟨k, 0, none⟩)] w (TxPost s k w) := by
  have hk := lt_of_block h
  have hT0 := Lib.hid (Turn.refl h)
  clear h
  go_enter Tryz.func214, Tryz.ntmps214
  go_wp2
  go_loopg [3] s.length (fun n v wr => ∃ (p : Nat) (acc : List UInt8), n + p = s.length ∧ acc.length ≤ p ∧ rdX s = rdT acc p (s.drop p) ∧ Turn k (rdO s p 0) w wr ∧ Row8 w.heap.size v acc wr)
  case atStart => exact ⟨0, [], by omega, by simp, rfl, hT0.out, Row8.nil _ _⟩
  case round =>
    obtain ⟨p, acc, hp, hacc, hX, hT, hR⟩ := hrel
    have HP := Lib.hid hp
    have hple : p ≤ s.length := by omega
    have HX := Lib.hid hX
    have HT := Lib.hid hT
    have HR := Lib.hid hR
    clear hX hT hR hp
    by_cases hlt : p < s.length
    · have hd := Lib.hid (List.drop_eq_getElem_cons hlt)
      go_wp2_with fail
      refine (next_yes s p 0 k _ (by unfold maxLen; omega) hlt HT.out.here).mono ?_
      rintro r w1 ⟨rfl, hT1⟩
      have HT1 := Lib.hid (HT.out.trans hT1)
      have HR1 := Lib.hid (HR.out.turn hT1 hk)
      have e1 := rd2 hT1.here
      clear hT1
      generalize hcc : s[p] = c at *
      clear hcc
      by_cases hc : c = 0
      · subst hc
        by_cases hlt2 : p + 1 < s.length
        · have hd2 := Lib.hid (List.drop_eq_getElem_cons hlt2)
          go_wp2_with fail
          refine (next_yes s (p + 1) 0 k _ (by unfold maxLen; omega) hlt2 HT1.out.here).mono ?_
          rintro r w2 ⟨rfl, hT2⟩
          have HT2 := Lib.hid (HT1.out.trans hT2)
          have HR2 := Lib.hid (HR1.out.turn hT2 hk)
          have e2 := rd2 hT2.here
          clear hT2
          generalize hdd : s[p + 1] = d at *
          clear hdd e1
          by_cases h1 : d = 1
          · subst h1
            have HZ := Lib.hid (show rdX s = (acc, p + 2, 0) by rw [HX.out, hd.out, hd2.out, rdT, if_pos rfl, if_pos rfl])
            have hconv := Row8.conv HR2.out
            go_wp2
            go_ret
            exact TxPost.mk HZ.out HT2.out (by omega) (fun _ => rfl)
          · have b1 := byte_ne 1 h1 (by omega)
            by_cases h2 : d = 255
            · subst h2
              by_cases hl : acc.length = 100000
              · have bl : ((acc.length : Int) == 100000) = true := by rw [beq_iff_eq]; omega
                have HZ := Lib.hid (show rdX s = ([], 0, 4) by rw [HX.out, hd.out, hd2.out, rdT, if_pos rfl, if_neg h1, if_neg (by simp), if_pos hl])
                clear hl
                obtain ⟨x, cap, rfl⟩ := HR2.out.slice
                go_wp2_with fail
                refine (fail_any s (p + 2) 0 4 k _ HT2.out.here).mono ?_
                rintro r w3 ⟨rfl, hT3⟩
                rw [show ferr 0 4 = 4 from rfl] at hT3
                have HT3 := Lib.hid (HT2.out.trans hT3)
                clear hT3
                go_wp2
                go_ret
                exact TxPost.mk HZ.out HT3.out (by omega) (fun h => by cases h)
              · have bl : ((acc.length : Int) == 100000) = false := by rw [beq_eq_false_iff_ne]; omega
                have HZ := Lib.hid (show rdX s = rdT (acc ++ [0]) (p + 2) (s.drop (p + 2)) by rw [HX.out, hd.out, hd2.out, rdT, if_pos rfl, if_neg h1, if_neg (by simp), if_neg hl])
                have hz := HT2.out.size
                have hgk : 2 ≤ gk := by have := HP.out; omega
                clear hl
                obtain ⟨x, cap, rfl⟩ := HR2.out.slice
                go_wp2_with (at_builtin; go_loud (refine wp_app8 rfl _ _ (by rfl) w.heap.size _ _ (by rfl) _ HR2.out 0 0 rfl (by rfl) (by omega) hz ?_); intro v' w3 hR3 hB3)
                have HR3 := Lib.hid hR3
                have HT3 := Lib.hid (HT2.out.of_low hB3 hk)
                clear hR3 hB3
                go_wp2
                go_roundg (gk - 2)
                case measure => omega
                case rel => exact ⟨p + 2, acc ++ [0], by have := HP.out; omega, by simp; omega, HZ.out, HT3.out, HR3.out⟩
            · have b2 := byte_ne 255 h2 (by omega)
              have b3 : ((d.toNat : Int) != 255) = true := by rw [bne_iff_ne]; intro e; rw [beq_eq_false_iff_ne] at b2; exact b2 e
              have HZ := Lib.hid (show rdX s = ([], 0, 12) by rw [HX.out, hd.out, hd2.out, rdT, if_pos rfl, if_neg h1, if_pos h2])
              go_wp2_with fail
              refine (fail_any s (p + 2) 0 12 k _ HT2.out.here).mono ?_
              rintro r w3 ⟨rfl, hT3⟩
              rw [show ferr 0 12 = 12 from rfl] at hT3
              have HT3 := Lib.hid (HT2.out.trans hT3)
              clear hT3
              go_wp2
              go_ret
              exact TxPost.mk HZ.out HT3.out (by omega) (fun h => by cases h)
        · go_wp2_with fail
          refine (next_no s (p + 1) 0 k _ (by unfold maxLen; omega) (by omega) (by unfold maxLen; omega) HT1.out.here).mono ?_
          rintro r w2 ⟨rfl, hT2⟩
          rw [show ferr 0 11 = 11 from rfl] at hT2
          have HT2 := Lib.hid (HT1.out.trans hT2)
          have HZ := Lib.hid (show rdX s = ([], 0, 11) by rw [HX.out, hd.out, List.drop_eq_nil_of_le (by omega), rdT, if_pos rfl])
          have e2 := rd2 hT2.here
          clear hT2 e1
          go_wp2
          go_ret
          exact TxPost.mk HZ.out HT2.out (by omega) (fun h => by cases h)
      · have b0 := byte_ne 0 hc (by omega)
        by_cases hl : acc.length = 100000
        · have bl : ((acc.length : Int) == 100000) = true := by rw [beq_iff_eq]; omega
          have HZ := Lib.hid (show rdX s = ([], 0, 4) by rw [HX.out, hd.out, rdT_lim _ _ _ _ hc hl])
          clear hl
          obtain ⟨x, cap, rfl⟩ := HR1.out.slice
          go_wp2_with fail
          refine (fail_any s (p + 1) 0 4 k _ HT1.out.here).mono ?_
          rintro r w3 ⟨rfl, hT3⟩
          rw [show ferr 0 4 = 4 from rfl] at hT3
          have HT3 := Lib.hid (HT1.out.trans hT3)
          clear hT3
          go_wp2
          go_ret
          exact TxPost.mk HZ.out HT3.out (by omega) (fun h => by cases h)
        · have bl : ((acc.length : Int) == 100000) = false := by rw [beq_eq_false_iff_ne]; omega
          have HZ := Lib.hid (show rdX s = rdT (acc ++ [c]) (p + 1) (s.drop (p + 1)) by rw [HX.out, hd.out, rdT_one _ _ _ _ hc hl])
          have hz := HT1.out.size
          have hgk : 1 ≤ gk := by have := HP.out; omega
          clear hl
          obtain ⟨x, cap, rfl⟩ := HR1.out.slice
          go_wp2_with (at_builtin; go_loud (refine wp_app8 rfl _ _ (by rfl) w.heap.size _ _ (by rfl) _ HR1.out c _ rfl (by rfl) (by omega) hz ?_); intro v' w3 hR3 hB3)
          have HR3 := Lib.hid hR3
          have HT3 := Lib.hid (HT1.out.of_low hB3 hk)
          clear hR3 hB3
          go_wp2
          go_roundg (gk - 1)
          case measure => omega
          case rel => exact ⟨p + 1, acc ++ [c], by have := HP.out; omega, by simp; omega, HZ.out, HT3.out, HR3.out⟩
    · have HZ := Lib.hid (show rdX s = ([], 0, 11) by rw [HX.out, List.drop_eq_nil_of_le (by omega), rdT])
      go_wp2_with fail
      refine (next_no s p 0 k _ (by unfold maxLen; omega) (by omega) (by unfold maxLen; omega) HT.out.here).mono ?_
      rintro r w1 ⟨rfl, hT1⟩
      rw [show ferr 0 11 = 11 from rfl] at hT1
      have HT1 := Lib.hid (HT.out.trans hT1)
      have e1 := rd2 hT1.here
      clear hT1
      go_wp2
      go_ret
      exact TxPost.mk HZ.out HT1.out hple (fun h => by cases h)

def rdXV (s : List UInt8) : Value := .tuple #[sV (rdX s).1, .int .i64 ((rdX s).2.1 : Int), .int .i64 (rdX s).2.2]
theorem rdXV_err {s : List UInt8} (h : (rdX s).2.2 ≠ 0) : rdXV s = .tuple #[sV [], .int .i64 0, .int .i64 (rdX s).2.2] := by
  obtain ⟨h1, h2⟩ := rdX_err h
  unfold rdXV; rw [h1, h2]; rfl

set_option maxHeartbeats 2000000 in
theorem ReadText_any (s : List UInt8) (w : World) (hs : s.length ≤ 10000000) : Gives Tryz.prog 212 #[sV s] w (rdXV s) := by
  have HI := Lib.hid (fun W h => text_any s w.heap.size W hs h)
  unfold Gives
  go_enter Tryz.func212, Tryz.ntmps212
  go_wp2_with fail
  refine (HI.out _ (alloc_here _ _)).mono ?_
  rintro r w1 ⟨rfl, q, hT, hq, hz⟩
  have HB := Lib.hid (((Below.refl _ w).alloc (Nat.le_refl _) _).trans (hT.below (Nat.le_refl _) (by simp)))
  have h1 := rd1 hT.here
  have h2 := rd2 hT.here
  clear hT
  by_cases he : (rdX s).2.2 = 0
  · have HV := Lib.hid (show rdXV s = .tuple #[sV (rdX s).1, .int .i64 q, .int .i64 0] by unfold rdXV; rw [he, hz he])
    rw [he] at h2
    clear he hz
    generalize (rdX s).1 = tx at *
    go_wp2
    go_quiet (fail)
    go_wp2
    go_ret3
    rw [HV.out]
    exact ⟨rfl, Ext.drewN' HB.out⟩
  · have HV := Lib.hid (rdXV_err he)
    have hb : ((rdX s).2.2 == 0) = false := by rw [beq_eq_false_iff_ne]; exact he
    have hb2 : ((rdX s).2.2 != 0) = true := by rw [bne_iff_ne]; exact he
    clear hz he
    generalize (rdX s).1 = tx at *
    go_wp2
    go_quiet (fail)
    go_wp2
    go_ret3
    rw [HV.out]
    exact ⟨rfl, Ext.drewN' HB.out⟩

end Go.Proofs.YtfkjokbhnblndaaGreatDoor

namespace Go.Proofs.YtfkjokbhnblndaaGreatDoor
open Go.RowKit
attribute [local go_sem] sB_extract
set_option linter.unusedVariables false

end Go.Proofs.YtfkjokbhnblndaaGreatDoor

namespace Go.Proofs.YtfkjokbhnblndaaGreatDoor
open Go.RowKit
attribute [local go_sem] sB_extract
set_option linter.unusedVariables false

/-- what Open returns -/
def opn (s : List UInt8) : List UInt8 × Nat × Int :=
  if (rdI s).2.2 ≠ 0 then ([], 0, (rdI s).2.2)
  else if (rdI s).1 < 0 ∨ 100000 < (rdI s).1 then ([], 0, 12)
  else if s.length < (rdI s).2.1 + (rdI s).1.toNat + 4 then ([], 0, 11)
  else if (s.take ((rdI s).2.1 + (rdI s).1.toNat + 4)).drop ((rdI s).2.1 + (rdI s).1.toNat) ≠ be4 (ck (s.take ((rdI s).2.1 + (rdI s).1.toNat))) then ([], 0, 13)
  else ((s.take ((rdI s).2.1 + (rdI s).1.toNat)).drop (rdI s).2.1, (rdI s).2.1 + (rdI s).1.toNat + 4, 0)
def opV (s : List UInt8) : Value := .tuple #[sV (opn s).1, .int .i64 ((opn s).2.1 : Int), .int .i64 (opn s).2.2]

theorem Open_err (s : List UInt8) (w : World) (hs : s.length ≤ 1099511627776) (h : (rdI s).2.2 ≠ 0) : Gives Tryz.prog 31 #[sV s] w (opV s) := by
  have HV := Lib.hid (show opV s = .tuple #[sV [], .int .i64 0, .int .i64 (rdI s).2.2] by unfold opV; rw [opn, if_pos h]; rfl)
  have HR := Lib.hid (rdV_err h)
  have hb : ((rdI s).2.2 != 0) = true := by rw [bne_iff_ne]; exact h
  clear h
  unfold Gives
  go_enter Tryz.func31, Tryz.ntmps31
  go_wp2_with fail
  refine (ReadInt_any s _ (Nat.le_trans hs (by decide))).mono ?_
  intro w1 hB1
  rw [HR.out]
  generalize (rdI s).2.2 = e at *
  go_wp2
  go_ret3
  rw [HV.out]
  exact ⟨rfl, hB1⟩

theorem Open_range (s : List UInt8) (w : World) (hs : s.length ≤ 1099511627776) (h : (rdI s).2.2 = 0) (h2 : (rdI s).1 < 0 ∨ 100000 < (rdI s).1) : Gives Tryz.prog 31 #[sV s] w (opV s) := by
  have HV := Lib.hid (show opV s = .tuple #[sV [], .int .i64 0, .int .i64 12] by unfold opV; rw [opn, if_neg (by simp [h]), if_pos h2]; rfl)
  have HR := Lib.hid (show rdV s = .tuple #[.int .i64 (rdI s).1, .int .i64 ((rdI s).2.1 : Int), .int .i64 0] by unfold rdV; rw [h])
  clear h
  generalize (rdI s).1 = n at *
  generalize (rdI s).2.1 = k at *
  unfold Gives
  rcases h2 with h2 | h2
  · go_enter Tryz.func31, Tryz.ntmps31
    go_wp2_with fail
    refine (ReadInt_any s _ (Nat.le_trans hs (by decide))).mono ?_
    intro w1 hB1
    rw [HR.out]
    go_wp2
    go_ret3
    rw [HV.out]
    exact ⟨rfl, hB1⟩
  · have hd : decide (n < 0) = false := by simp; omega
    have hd2 : decide (100000 < n) = true := by simp; omega
    go_enter Tryz.func31, Tryz.ntmps31
    go_wp2_with fail
    refine (ReadInt_any s _ (Nat.le_trans hs (by decide))).mono ?_
    intro w1 hB1
    rw [HR.out]
    go_wp2
    go_ret3
    rw [HV.out]
    exact ⟨rfl, hB1⟩

theorem Open_short (s : List UInt8) (n k : Nat) (w : World) (hs : s.length ≤ 1099511627776) (h : rdI s = ((n : Int), k, 0)) (hn : n ≤ 100000) (hk : k ≤ s.length) (h3 : s.length < k + n + 4) : Gives Tryz.prog 31 #[sV s] w (opV s) := by
  have HV := Lib.hid (show opV s = .tuple #[sV [], .int .i64 0, .int .i64 11] by unfold opV; rw [opn, h]; simp only [Int.toNat_natCast]; rw [if_neg (by simp), if_neg (by omega), if_pos h3]; rfl)
  have HR := Lib.hid (show rdV s = .tuple #[.int .i64 (n : Int), .int .i64 (k : Int), .int .i64 0] by unfold rdV; rw [h])
  have hd2 : decide ((100000 : Int) < (n : Int)) = false := by simp; omega
  clear h
  unfold Gives
  go_enter Tryz.func31, Tryz.ntmps31
  go_wp2_with fail
  refine (ReadInt_any s _ (Nat.le_trans hs (by decide))).mono ?_
  intro w1 hB1
  rw [HR.out]
  go_wp2
  go_ret3
  rw [HV.out]
  exact ⟨rfl, hB1⟩

end Go.Proofs.YtfkjokbhnblndaaGreatDoor

namespace Go.Proofs.YtfkjokbhnblndaaGreatDoor
open Go.RowKit
set_option linter.unusedVariables false

theorem size5 (w : World) : (Go.sizeOf 5).run Tryz.prog w = .ok 1 w := by kernel_rfl

set_option maxRecDepth 100000 in
theorem run_eq4 (d : Nat) (w : World) (x0 x1 x2 x3 y0 y1 y2 y3 : Int) :
    (Op.equalIn (d + 1 + 1) 119 (.agg #[.int .u8 x0, .int .u8 x1, .int .u8 x2, .int .u8 x3]) (.agg #[.int .u8 y0, .int .u8 y1, .int .u8 y2, .int .u8 y3])).run Tryz.prog w = .ok ((x0 == y0) && ((x1 == y1) && ((x2 == y2) && (x3 == y3)))) w := by
  have hint : ∀ (d : Nat) (a b : Int) (w : World), (Op.equalIn (d + 1) 5 (.int .u8 a) (.int .u8 b)).run Tryz.prog w = .ok (a == b) w := fun d a b w => run_equalIn_int w d 5 .u8 .u8 a b Tryz.underlying5
  have hp : ∀ (i : Nat) (c0 c1 c2 c3 : Int) (w : World), i < 4 → (part 5 #[.int .u8 c0, .int .u8 c1, .int .u8 c2, .int .u8 c3] i).run Tryz.prog w = .ok (#[Value.int .u8 c0, .int .u8 c1, .int .u8 c2, .int .u8 c3].getD i undef) w := by
    intro i c0 c1 c2 c3 w hi
    match i, hi with
    | 0, _ => rfl
    | 1, _ => rfl
    | 2, _ => rfl
    | 3, _ => rfl
  rw [Op.equalIn]
  simp only [Sem.run_bind, run_underlying Tryz.underlying119, Result.andThen_ok, size5]
  have hp0 := fun c0 c1 c2 c3 w => hp 0 c0 c1 c2 c3 w (by omega)
  have hp1 := fun c0 c1 c2 c3 w => hp 1 c0 c1 c2 c3 w (by omega)
  have hp2 := fun c0 c1 c2 c3 w => hp 2 c0 c1 c2 c3 w (by omega)
  have hp3 := fun c0 c1 c2 c3 w => hp 3 c0 c1 c2 c3 w (by omega)
  cases h0 : (x0 == y0) <;> cases h1 : (x1 == y1) <;> cases h2 : (x2 == y2) <;> cases h3 : (x3 == y3)
  all_goals simp [List.range', hp0, hp1, hp2, hp3, hint, h0, h1, h2, h3, Sem.run_ite, -beq_iff_eq, -beq_eq_false_iff_ne]

end Go.Proofs.YtfkjokbhnblndaaGreatDoor

namespace Go.Proofs.YtfkjokbhnblndaaGreatDoor
open Go.RowKit
attribute [local go_sem] sB_extract
set_option linter.unusedVariables false
set_option linter.unusedSimpArgs false

theorem be4_len (n : Int) : (be4 n).length = 4 := rfl

/-- the values of the region that compares the checksums -/
def opPh (s : List UInt8) (E : Nat) (T : List UInt8) (a b c d : UInt8) (r : Bool) : List (Value → World → Prop) :=
  [fun v _ => v = sV s, fun v _ => v = .int .i64 E, fun v _ => v = .int .i64 E, fun v _ => v = .int .i64 (E + 4 : Nat), fun v _ => v = sV T,
   fun v W => ∃ g cap, v = .slice (some ⟨g, 0, none⟩) 4 cap ∧ BytesAt W g T ∧ g < W.heap.size,
   fun v W => ∃ g, v = .pointer (some ⟨g, 0, none⟩) ∧ BytesAt W g T ∧ g < W.heap.size,
   fun v _ => v = .agg (bsV T).toArray, fun v _ => v = sV s, fun v _ => v = .int .i64 E, fun v _ => v = sV (s.take E), fun v _ => v = .int .i64 (ck (s.take E)),
   fun v _ => v = .agg (bsV [a, b, c, d]).toArray, fun v _ => v = .bool r]
def opΦ (s : List UInt8) (E : Nat) (T : List UInt8) (a b c d : UInt8) (r : Bool) (i : Nat) (v : Value) (W : World) : Prop := (opPh s E T a b c d r).getD i (fun _ _ => True) v W

theorem opΦ_st (s : List UInt8) (E : Nat) (T : List UInt8) (a b c d : UInt8) (r : Bool) : ∀ i v W W', opΦ s E T a b c d r i v W → Ext W W' → opΦ s E T a b c d r i v W' := by
  intro i v W W' h hE
  match i, h with
  | 0, h => exact h
  | 1, h => exact h
  | 2, h => exact h
  | 3, h => exact h
  | 4, h => exact h
  | 5, ⟨g, cap, h1, h2, h3⟩ => exact ⟨g, cap, h1, h2.ext h3 hE, Nat.lt_of_lt_of_le h3 hE.size⟩
  | 6, ⟨g, h1, h2, h3⟩ => exact ⟨g, h1, h2.ext h3 hE, Nat.lt_of_lt_of_le h3 hE.size⟩
  | 7, h => exact h
  | 8, h => exact h
  | 9, h => exact h
  | 10, h => exact h
  | 11, h => exact h
  | 12, h => exact h
  | 13, h => exact h
  | n + 14, h => exact trivial

theorem u8_eq (x a : UInt8) : (x == a) = ((x.toNat : Int) == (a.toNat : Int)) := by
  rw [Bool.eq_iff_iff]
  simp only [beq_iff_eq]
  constructor
  · rintro rfl; rfl
  · intro h; exact UInt8.toNat.inj (by omega)
theorem four_eq (x y z u a b c d : UInt8) : ([x, y, z, u] == [a, b, c, d]) = (((x.toNat : Int) == (a.toNat : Int)) && (((y.toNat : Int) == (b.toNat : Int)) && (((z.toNat : Int) == (c.toNat : Int)) && ((u.toNat : Int) == (d.toNat : Int))))) := by
  rw [← u8_eq, ← u8_eq, ← u8_eq, ← u8_eq]
  simp [List.cons_beq_cons]

theorem four (T : List UInt8) (h : T.length = 4) : ∃ a b c d, T = [a, b, c, d] := by
  match T, h with
  | [a, b, c, d], _ => exact ⟨a, b, c, d, rfl⟩

set_option maxRecDepth 100000 in
set_option maxHeartbeats 4000000 in
theorem Open_main (s : List UInt8) (n k : Nat) (w : World) (hs : s.length ≤ 1099511627776) (h : rdI s = ((n : Int), k, 0)) (hn : n ≤ 100000) (h3 : k + n + 4 ≤ s.length) : Gives Tryz.prog 31 #[sV s] w (opV s) := by
  have HR := Lib.hid (show rdV s = .tuple #[.int .i64 (n : Int), .int .i64 (k : Int), .int .i64 0] by unfold rdV; rw [h])
  have hd2 : decide ((100000 : Int) < (n : Int)) = false := by simp; omega
  unfold Gives
  go_enter Tryz.func31, Tryz.ntmps31
  go_wp2_with fail
  refine (ReadInt_any s _ (Nat.le_trans hs (by decide))).mono ?_
  intro w1 hB1
  rw [HR.out]
  go_wp2
  obtain ⟨a, b, c, d, hT⟩ : ∃ a b c d, be4 (ck (s.take (k + n))) = [a, b, c, d] := ⟨_, _, _, _, rfl⟩
  obtain ⟨x, y, z, u, hX⟩ := four ((s.take (k + n + 4)).drop (k + n)) (by simp; omega)
  rw [show (k : Int) + (n : Int) = ((k + n : Nat) : Int) by omega]
  obtain ⟨E, hE⟩ : ∃ E, E = k + n := ⟨_, rfl⟩
  obtain ⟨c1, c2⟩ := ck_bd (s.take E)
  rw [← hE] at hT hX ⊢
  have hE4 : E + 4 ≤ s.length := by omega
  refine wp_region_vals (by kernel_rfl) (opΦ s E [x, y, z, u] a b c d (!([x, y, z, u] == [a, b, c, d]))) (opΦ_st _ _ _ _ _ _ _ _) (by kernel_rfl) (by kernel_rfl) 52 rfl (by kernel_rfl) (by kernel_rfl) ?_ ?_
  · intro i o ho a' W hA
    match i, ho with
    | 0, ho =>
      obtain rfl := Option.some.inj ho
      exact Goes.move (.tmp 0) rfl rfl (hA.keep 0 (by kernel_rfl))
    | 1, ho =>
      obtain rfl := Option.some.inj ho
      exact Goes.move (.tmp 8) rfl rfl (hA.keep 8 (by kernel_rfl))
    | 2, ho =>
      obtain rfl := Option.some.inj ho
      exact Goes.move (.tmp 8) rfl rfl (hA.keep 8 (by kernel_rfl))
    | 3, ho =>
      obtain rfl := Option.some.inj ho
      have e1 : a'.eval (.tmp 34) = .int .i64 E := hA.get 2 34 rfl (by kernel_rfl)
      refine Goes.value (.int .i64 (E + 4 : Nat)) rfl ?_ rfl (Below.refl _ _)
      have hw := wrapi (x := (E : Int) + 4) (by omega) (by omega)
      simp only [execOp, e1]
      simp [go_sem, hw]
    | 4, ho =>
      obtain rfl := Option.some.inj ho
      have e0 : a'.eval (.tmp 32) = sV s := hA.get 0 32 rfl (by kernel_rfl)
      have e1 : a'.eval (.tmp 33) = .int .i64 E := hA.get 1 33 rfl (by kernel_rfl)
      have e2 : a'.eval (.tmp 35) = .int .i64 (E + 4 : Nat) := hA.get 3 35 rfl (by kernel_rfl)
      refine Goes.value (sV [x, y, z, u]) rfl ?_ rfl (Below.refl _ _)
      simp only [execOp, e0, e1, e2, Option.map]
      have hsl := run_slice_string (P := Tryz.prog) W 9 (sB s) .i64 .i64 (E : Int) ((E + 4 : Nat) : Int) Tryz.underlying9 (by omega) (by omega) (by rw [sB_size]; omega)
      simp only [Sem.run_bind, run_sliceAt_string W 9 _ _ _ _ Tryz.underlying9, hsl, Result.andThen_ok, Sem.run_pure, sB_extract, Int.toNat_natCast, hX]
    | 5, ho =>
      obtain rfl := Option.some.inj ho
      have e0 : a'.eval (.tmp 36) = sV [x, y, z, u] := hA.get 4 36 rfl (by kernel_rfl)
      have hrun := run_bytes_of_string (P := Tryz.prog) W 9 42 5 (sB [x, y, z, u]) Tryz.underlying9 Tryz.underlying42 Tryz.underlying5
      refine Goes.value _ rfl (by simp only [execOp, e0, Sem.run_bind, hrun, Result.andThen, Sem.run_pure]; rfl) ?_ (((Below.refl _ W).drew).alloc (Nat.le_refl _) _)
      refine ⟨_, _, rfl, ?_, by simp⟩
      intro i hi
      have hA := alloc_here W.drew (.cells (bytesRow (sB [x, y, z, u]) (grownCap W 4 0 5)) 5 ((bytesRow (sB [x, y, z, u]) (grownCap W 4 0 5)).size, (bytesRow (sB [x, y, z, u]) (grownCap W 4 0 5)).size + 1))
      have hsz : i < (bytesRow (sB [x, y, z, u]) (grownCap W 4 0 5)).size := by simp [bytesRow, sB]; simp at hi; omega
      refine ⟨cell_of hA ?_, ?_⟩
      · have hi4 : i < 4 := by simpa using hi
        match i, hi4 with
        | 0, _ => simp [bytesRow, sB, Array.getElem?_append]
        | 1, _ => simp [bytesRow, sB, Array.getElem?_append]
        | 2, _ => simp [bytesRow, sB, Array.getElem?_append]
        | 3, _ => simp [bytesRow, sB, Array.getElem?_append]
      · exact free_mark hA hsz
    | 6, ho =>
      obtain rfl := Option.some.inj ho
      obtain ⟨g, cap, e0, h1, h2⟩ : ∃ g cap, a'.eval (.tmp 37) = .slice (some ⟨g, 0, none⟩) 4 cap ∧ BytesAt W g [x, y, z, u] ∧ g < W.heap.size := hA.get 5 37 rfl (by kernel_rfl)
      refine Goes.value (.pointer (some ⟨g, 0, none⟩)) rfl ?_ ⟨g, rfl, h1, h2⟩ (Below.refl _ _)
      simp only [execOp, e0, Instr.arrayAt, Sem.run_bind, run_underlying Tryz.underlying119, Result.andThen_ok]
      rfl
    | 7, ho =>
      obtain rfl := Option.some.inj ho
      obtain ⟨g, e0, h1, h2⟩ : ∃ g, a'.eval (.tmp 38) = .pointer (some ⟨g, 0, none⟩) ∧ BytesAt W g [x, y, z, u] ∧ g < W.heap.size := hA.get 6 38 rfl (by kernel_rfl)
      refine Goes.value (.agg (bsV [x, y, z, u]).toArray) rfl ?_ rfl (Below.refl _ _)
      have hl := run_loadAt_mid (P := Tryz.prog) W g 0 119 (bsV [x, y, z, u]) _ (fun j v hj => by
        have hj4 : j < 4 := by
          have := (List.getElem?_eq_some_iff.1 hj).1
          simpa [bsV] using this
        have := (h1 j hj4).1
        rw [Nat.zero_add, this]
        rw [← hj]
        match j, hj4 with
        | 0, _ => rfl
        | 1, _ => rfl
        | 2, _ => rfl
        | 3, _ => rfl) Tryz.underlying119 rfl (by kernel_rfl)
      simp only [execOp, e0, Sem.run_bind, hl, Result.andThen_ok, Sem.run_pure]
    | 8, ho =>
      obtain rfl := Option.some.inj ho
      exact Goes.move (.tmp 0) rfl rfl (hA.keep 0 (by kernel_rfl))
    | 9, ho =>
      obtain rfl := Option.some.inj ho
      exact Goes.move (.tmp 8) rfl rfl (hA.keep 8 (by kernel_rfl))
    | 10, ho =>
      obtain rfl := Option.some.inj ho
      have e0 : a'.eval (.tmp 40) = sV s := hA.get 8 40 rfl (by kernel_rfl)
      have e1 : a'.eval (.tmp 41) = .int .i64 E := hA.get 9 41 rfl (by kernel_rfl)
      refine Goes.value (sV (s.take E)) rfl ?_ rfl (Below.refl _ _)
      simp only [execOp, e0, e1, Option.map]
      have hsl := run_slice_string_h (P := Tryz.prog) (w := W) (t := 9) (s := sB s) (ht := Tryz.underlying9) .i64 (E : Int) (by omega) (by rw [sB_size]; omega)
      simp only [Sem.run_bind, run_sliceAt_string W 9 _ _ _ _ Tryz.underlying9, hsl, Result.andThen_ok, Sem.run_pure, sB_extract, Int.toNat_natCast, List.drop_zero]
    | 11, ho =>
      obtain rfl := Option.some.inj ho
      have e0 : a'.eval (.tmp 42) = sV (s.take E) := hA.get 10 42 rfl (by kernel_rfl)
      refine Goes.call 61 #[sV (s.take E)] (.int .i64 (ck (s.take E))) rfl ?_ (Sum_l _ _ (by unfold maxLen; simp; omega)) (fun _ _ => rfl)
      simp [execOp, resolve, invoke, Deferred.ofValue, e0]
      rfl
    | 12, ho =>
      obtain rfl := Option.some.inj ho
      have e0 : a'.eval (.tmp 43) = .int .i64 (ck (s.take E)) := hA.get 11 43 rfl (by kernel_rfl)
      refine Goes.call 60 #[.int .i64 (ck (s.take E))] (.agg (bsV [a, b, c, d]).toArray) rfl ?_ (bytes_at (ck (s.take E)) a b c d W c1 c2 hT) (fun _ _ => rfl)
      simp [execOp, resolve, invoke, Deferred.ofValue, e0]
      rfl
    | 13, ho =>
      obtain rfl := Option.some.inj ho
      have e0 : a'.eval (.tmp 39) = .agg (bsV [x, y, z, u]).toArray := hA.get 7 39 rfl (by kernel_rfl)
      have e1 : a'.eval (.tmp 44) = .agg (bsV [a, b, c, d]).toArray := hA.get 12 44 rfl (by kernel_rfl)
      refine Goes.value (.bool (!([x, y, z, u] == [a, b, c, d]))) rfl ?_ rfl (Below.refl _ _)
      have hg := run_eqGuard_agg (P := Tryz.prog) W .neq 119 (.tmp 39) (.tmp 44) (bsV [x, y, z, u]).toArray (bsV [a, b, c, d]).toArray (by kernel_rfl)
      have hn := run_neq_struct (P := Tryz.prog) W 119 (bsV [x, y, z, u]).toArray (bsV [a, b, c, d]).toArray
      have hq := run_eq4 9998 W x.toNat y.toNat z.toNat u.toNat a.toNat b.toNat c.toNat d.toNat
      have hq' : (Op.equalIn 10000 119 (.agg (bsV [x, y, z, u]).toArray) (.agg (bsV [a, b, c, d]).toArray)).run Tryz.prog W = .ok ([x, y, z, u] == [a, b, c, d]) W := by
        rw [four_eq]
        exact hq
      simp only [execOp, e0, e1, Sem.run_bind, hg, hn, hq', Result.andThen_ok, Sem.run_pure]
    | i + 14, ho => cases ho
  · intro vs W hvs hW hΦ
    have hE3 := Ext.trans hB1 hW
    obtain ⟨v0, v1, v2, v3, v4, v5, v6, v7, v8, v9, v10, v11, v12, v13, rfl⟩ : ∃ v0 v1 v2 v3 v4 v5 v6 v7 v8 v9 v10 v11 v12 v13, vs = [v0, v1, v2, v3, v4, v5, v6, v7, v8, v9, v10, v11, v12, v13] := by
      match vs, hvs with
      | [v0, v1, v2, v3, v4, v5, v6, v7, v8, v9, v10, v11, v12, v13], _ => exact ⟨v0, v1, v2, v3, v4, v5, v6, v7, v8, v9, v10, v11, v12, v13, rfl⟩
    have h13 : v13 = .bool (!([x, y, z, u] == [a, b, c, d])) := hΦ 13 (by decide)
    subst h13
    clear hΦ
    have e1 := wrapi (x := (E : Int) + 4) (by omega) (by omega)
    simp only [putAll, Act.put, List.setIfInBounds_toArray, List.set_cons_succ, List.set_cons_zero]
    by_cases hq : [x, y, z, u] = [a, b, c, d]
    · have HV := Lib.hid (show opV s = .tuple #[sV ((s.take (k + n)).drop k), .int .i64 ((k : Int) + (n : Int) + 4), .int .i64 0] by
        unfold opV; rw [opn, h]; simp only [Int.toNat_natCast]; rw [← hE, if_neg (by simp), if_neg (by omega), if_neg (by omega), if_neg (by simp [hX, hT, hq])]; simp [hE])
      have hb : ([x, y, z, u] == [a, b, c, d]) = true := by rw [beq_iff_eq]; exact hq
      rw [hb]
      simp only [Bool.not_true, Bool.not_false]
      clear hb hX hT hq h hE4
      go_wp2
      go_ret3
      rw [HV.out]
      exact ⟨rfl, hE3⟩
    · have HV := Lib.hid (show opV s = .tuple #[sV [], .int .i64 0, .int .i64 13] by
        unfold opV; rw [opn, h]; simp only [Int.toNat_natCast]; rw [← hE, if_neg (by simp), if_neg (by omega), if_neg (by omega), if_pos (by simpa [hX, hT] using hq)]; rfl)
      have hb : ([x, y, z, u] == [a, b, c, d]) = false := by rw [beq_eq_false_iff_ne]; exact hq
      rw [hb]
      simp only [Bool.not_true, Bool.not_false]
      clear hb hX hT hq h hE4
      go_wp2
      go_ret3
      rw [HV.out]
      exact ⟨rfl, hE3⟩

/-- Open, each way -/
theorem open_cases {C : Prop} (s : List UInt8) (h1 : (rdI s).2.2 ≠ 0 → C) (h2 : (rdI s).2.2 = 0 → (rdI s).1 < 0 ∨ 100000 < (rdI s).1 → C)
    (h3 : ∀ n k : Nat, rdI s = ((n : Int), k, 0) → n ≤ 100000 → k ≤ s.length → C) : C := by
  by_cases h : (rdI s).2.2 = 0
  · by_cases hr : (rdI s).1 < 0 ∨ 100000 < (rdI s).1
    · exact h2 h hr
    · obtain ⟨n, hn⟩ : ∃ n : Nat, (rdI s).1 = (n : Int) := ⟨(rdI s).1.toNat, by omega⟩
      have e : rdI s = ((n : Int), (rdI s).2.1, 0) := by rw [← hn, ← h]
      obtain ⟨_, _, hk, _, _⟩ := rdI_ok s _ _ e
      exact h3 n _ e (by omega) hk
  · exact h1 h
theorem Open_any (s : List UInt8) (w : World) (hs : s.length ≤ 1099511627776) : Gives Tryz.prog 31 #[sV s] w (opV s) := by
  refine open_cases s (Open_err s w hs) (Open_range s w hs) (fun n k h hn hk => ?_)
  by_cases h3 : k + n + 4 ≤ s.length
  · exact Open_main s n k w hs h hn h3
  · exact Open_short s n k w hs h hn hk (by omega)
end Go.Proofs.YtfkjokbhnblndaaGreatDoor

namespace Go.Proofs.YtfkjokbhnblndaaGreatDoor

/-- the sum of the bytes -/
def su : List UInt8 → Int
  | [] => 0
  | c :: l => (c.toNat : Int) + su l
/-- the bytes, each as often as it is counted in the second sum -/
def sw : List UInt8 → Int
  | [] => 0
  | c :: l => ((l.length : Int) + 1) * (c.toNat : Int) + sw l

theorem fold_val : ∀ (l : List UInt8) (a b : Int), Fine (a, b) → fold (a, b) l = ((a + su l) % 65521, (b + l.length * a + sw l) % 65521)
  | [], a, b, h => by
    obtain ⟨h1, h2, h3, h4⟩ := h
    simp only at h1 h2 h3 h4
    show (a, b) = _
    refine Prod.ext ?_ ?_
    · show a = (a + 0) % 65521
      omega
    · show b = (b + ((0 : Nat) : Int) * a + 0) % 65521
      simp; omega
  | c :: l, a, b, h => by
    have ih := fold_val l ((a + (c.toNat : Int)) % 65521) ((b + (a + (c.toNat : Int)) % 65521) % 65521) (fine_step h c)
    have e : fold (a, b) (c :: l) = fold ((a + (c.toNat : Int)) % 65521, (b + (a + (c.toNat : Int)) % 65521) % 65521) l := rfl
    rw [e, ih]
    simp only [su, sw, List.length_cons]
    refine Prod.ext ?_ ?_
    · simp only; omega
    · simp only
      rw [show ((l.length + 1 : Nat) : Int) = (l.length : Int) + 1 by omega]
      generalize (l.length : Int) = n at *
      generalize (c.toNat : Int) = x at *
      generalize sw l = s at *
      have h1 : (a + x) % 65521 = a + x - 65521 * ((a + x) / 65521) := by omega
      generalize (a + x) / 65521 = q at h1
      rw [h1]
      rw [Int.mul_sub, Int.mul_add, Int.mul_left_comm, Int.add_mul, Int.add_mul, Int.one_mul, Int.one_mul]
      generalize n * a = A
      generalize n * x = X
      generalize n * q = Z
      omega

theorem ck_val (l : List UInt8) : ck l = ((l.length + sw l) % 65521) * 65536 + (1 + su l) % 65521 := by
  unfold ck
  rw [fold_val l 1 0 fine10]
  simp

theorem su_set : ∀ (l : List UInt8) (i : Nat) (b : UInt8) (h : i < l.length), su (l.set i b) = su l - (l[i].toNat : Int) + (b.toNat : Int)
  | c :: l, 0, b, h => by simp [su]; omega
  | c :: l, i + 1, b, h => by
    have := su_set l i b (by simpa using h)
    simp [su, this]; omega
/-- a changed byte changes the checksum -/
theorem ck_byte (l : List UInt8) (i : Nat) (b : UInt8) (h : i < l.length) (hb : b ≠ l[i]) : ck (l.set i b) ≠ ck l := by
  rw [ck_val, ck_val, su_set l i b h]
  have h1 := b.toNat_lt
  have h2 := l[i].toNat_lt
  have h3 : b.toNat ≠ l[i].toNat := fun e => hb (UInt8.toNat_inj.1 e)
  omega

end Go.Proofs.YtfkjokbhnblndaaGreatDoor

namespace Go.Proofs.YtfkjokbhnblndaaGreatDoor
open Go.RowKit
set_option linter.unusedVariables false

theorem be4_inj {a b : Int} (ha : 0 ≤ a ∧ a < 4294967296) (hb : 0 ≤ b ∧ b < 4294967296) (h : be4 a = be4 b) : a = b := by
  unfold be4 at h
  simp only [List.cons.injEq, and_true] at h
  obtain ⟨h1, h2, h3, h4⟩ := h
  have e1 := byteAt_int a 16777216 (by omega)
  have e2 := byteAt_int a 65536 (by omega)
  have e3 := byteAt_int a 256 (by omega)
  have e4 := byteAt_int a 1 (by omega)
  rw [h1, byteAt_int b 16777216 (by omega)] at e1
  rw [h2, byteAt_int b 65536 (by omega)] at e2
  rw [h3, byteAt_int b 256 (by omega)] at e3
  rw [h4, byteAt_int b 1 (by omega)] at e4
  omega
theorem enc_len9 (l : List UInt8) (h : l.length ≤ 100000) : (enc l.length).length ≤ 9 := enc_len l.length (by omega) (by omega)
theorem frame_len (l : List UInt8) : (frame l).length = (enc l.length).length + l.length + 4 := by
  simp [frame, be4_len]; omega
theorem rdI_at (l r : List UInt8) (h : l.length ≤ 100000) : rdI (enc l.length ++ r) = ((l.length : Int), (enc l.length).length, 0) := rdI_enc l.length (by omega) (by omega) r

theorem opn_gen (l q r : List UInt8) (h : l.length ≤ 100000) (hq : q.length = 4) :
    opn (enc l.length ++ (l ++ (q ++ r))) = if q = be4 (ck (enc l.length ++ l)) then (l, (enc l.length).length + l.length + 4, 0) else ([], 0, 13) := by
  have h1 := rdI_at l (l ++ (q ++ r)) h
  have e1 : (enc l.length ++ (l ++ (q ++ r))).take ((enc l.length).length + l.length) = enc l.length ++ l := by
    rw [← List.append_assoc]
    exact List.take_left' (by simp)
  have e2 : ((enc l.length ++ (l ++ (q ++ r))).take ((enc l.length).length + l.length + 4)).drop ((enc l.length).length + l.length) = q := by
    have e3 : (enc l.length ++ (l ++ (q ++ r))).take ((enc l.length).length + l.length + 4) = (enc l.length ++ l) ++ q := by
      rw [← List.append_assoc, ← List.append_assoc]
      exact List.take_left' (by simp [hq]; omega)
    rw [e3]
    exact List.drop_left' (by simp)
  unfold opn
  rw [h1]
  simp only [Int.toNat_natCast, e1, e2]
  rw [if_neg (by simp), if_neg (by omega), if_neg (by simp [hq]; omega)]
  by_cases hc : q = be4 (ck (enc l.length ++ l))
  · rw [if_neg (by simp [hc]), if_pos hc]
    simp
  · rw [if_pos hc, if_neg hc]

theorem opn_frame (l r : List UInt8) (h : l.length ≤ 100000) : opn (frame l ++ r) = (l, (frame l).length, 0) := by
  have := opn_gen l (be4 (ck (enc l.length ++ l))) r h (be4_len _)
  rw [if_pos rfl] at this
  rw [frame_len, ← this]
  simp [frame]

theorem opn_short (l : List UInt8) (m : Nat) (h : l.length ≤ 100000) (hm : m < (frame l).length) : opn ((frame l).take m) = ([], 0, 11) := by
  rw [frame_len] at hm
  have h9 := enc_len9 l h
  by_cases hk : m < (enc l.length).length
  · have e : (frame l).take m = (enc l.length).take m := by
      unfold frame
      exact List.take_append_of_le_length (by omega)
    have hr : rdI ((enc l.length).take m) = (0, 0, 11) := by
      unfold enc at hk ⊢
      rw [if_pos (by omega)] at hk ⊢
      cases m with
      | zero => rfl
      | succ m =>
        simp only [List.length_cons, List.take_succ_cons] at hk ⊢
        have h8 := mag_len (l.length : Int).toNat (by omega)
        rw [rdI_head (headP (mag (l.length : Int).toNat).length) _ false (mag (l.length : Int).toNat).length h8 rfl, if_pos (by rw [List.length_take]; omega)]
    rw [e]
    unfold opn
    rw [hr]
    simp
  · have e : (frame l).take m = enc l.length ++ (l ++ be4 (ck (enc l.length ++ l))).take (m - (enc l.length).length) := by
      unfold frame
      rw [List.take_append, List.take_of_length_le (by omega)]
    have hr := rdI_at l ((l ++ be4 (ck (enc l.length ++ l))).take (m - (enc l.length).length)) h
    rw [e]
    unfold opn
    rw [hr]
    simp only [Int.toNat_natCast]
    rw [if_neg (by simp), if_neg (by omega), if_pos (by simp [be4_len]; omega)]

theorem opn_damage (l : List UInt8) (j : Nat) (b : UInt8) (h : l.length ≤ 100000) (hj : j < l.length + 4) (hi : (enc l.length).length + j < (frame l).length) (hb : b ≠ (frame l)[(enc l.length).length + j]) :
    opn ((frame l).set ((enc l.length).length + j) b) = ([], 0, 13) := by
  by_cases hl : j < l.length
  · have e : (frame l).set ((enc l.length).length + j) b = enc (l.set j b).length ++ ((l.set j b) ++ (be4 (ck (enc l.length ++ l)) ++ [])) := by
      unfold frame
      rw [List.set_append_right _ _ (by omega), List.set_append_left _ _ (by omega)]
      simp
    have hv : (frame l)[(enc l.length).length + j] = l[j] := by
      refine Option.some.inj ((List.getElem?_eq_getElem hi).symm.trans ?_)
      unfold frame
      rw [List.getElem?_append_right (by omega), Nat.add_sub_cancel_left, List.getElem?_append_left hl, List.getElem?_eq_getElem hl]
    rw [hv] at hb
    rw [e, opn_gen _ _ _ (by simpa using h) (be4_len _), if_neg]
    intro hc
    have hc := be4_inj (ck_bd _) (ck_bd _) hc
    have hs : enc (l.set j b).length ++ l.set j b = (enc l.length ++ l).set ((enc l.length).length + j) b := by
      rw [List.set_append_right _ _ (by omega)]
      simp
    rw [hs] at hc
    refine ck_byte (enc l.length ++ l) ((enc l.length).length + j) b (by simp; omega) ?_ hc.symm
    rw [List.getElem_append_right (by omega)]
    simpa using hb
  · have e : (frame l).set ((enc l.length).length + j) b = enc l.length ++ (l ++ ((be4 (ck (enc l.length ++ l))).set (j - l.length) b ++ [])) := by
      unfold frame
      rw [List.set_append_right _ _ (by omega), List.set_append_right _ _ (by omega)]
      simp
    have hj4 : j - l.length < (be4 (ck (enc l.length ++ l))).length := by rw [be4_len]; omega
    have hv : (frame l)[(enc l.length).length + j] = (be4 (ck (enc l.length ++ l)))[j - l.length] := by
      refine Option.some.inj ((List.getElem?_eq_getElem hi).symm.trans ?_)
      unfold frame
      rw [List.getElem?_append_right (by omega), Nat.add_sub_cancel_left, List.getElem?_append_right (by omega), List.getElem?_eq_getElem hj4]
    rw [hv] at hb
    rw [e, opn_gen _ _ _ h (by rw [List.length_set, be4_len]), if_neg]
    intro hc
    apply hb
    have := congrArg (fun x => x[j - l.length]?) hc
    simp only [List.getElem?_set_self hj4, List.getElem?_eq_getElem hj4] at this
    exact Option.some.inj this

theorem opn_no (s : List UInt8) (h : (opn s).2.2 ≠ 0) : (opn s).1 = [] ∧ (opn s).2.1 = 0 := by
  unfold opn at h ⊢
  repeat' split
  all_goals simp_all

theorem opn_yes (s : List UInt8) (h : (opn s).2.2 = 0) : (opn s).1.length ≤ 100000 ∧ (opn s).2.1 = (frame (opn s).1).length ∧ (opn s).2.1 ≤ s.length ∧ s.take (opn s).2.1 = frame (opn s).1 := by
  have h0 : (rdI s).2.2 = 0 := by
    by_cases h1 : (rdI s).2.2 = 0
    · exact h1
    · rw [opn, if_pos h1] at h; exact absurd h h1
  by_cases h2 : (rdI s).1 < 0 ∨ 100000 < (rdI s).1
  · rw [opn, if_neg (by simp [h0]), if_pos h2] at h; simp at h
  obtain ⟨n, hn⟩ : ∃ n : Nat, (rdI s).1 = (n : Int) := ⟨(rdI s).1.toNat, by omega⟩
  obtain ⟨k, hk⟩ : ∃ k, (rdI s).2.1 = k := ⟨_, rfl⟩
  have e : rdI s = ((n : Int), k, 0) := by rw [← hn, ← hk, ← h0]
  obtain ⟨b1, b2, b3, b4, b5⟩ := rdI_ok s _ _ e
  have hn' : n ≤ 100000 := by omega
  clear h0 h2 hn hk
  by_cases h3 : s.length < k + n + 4
  · rw [opn, e] at h; simp only [Int.toNat_natCast] at h; rw [if_neg (by simp), if_neg (by omega), if_pos h3] at h; simp at h
  by_cases h4 : (s.take (k + n + 4)).drop (k + n) ≠ be4 (ck (s.take (k + n)))
  · rw [opn, e] at h; simp only [Int.toNat_natCast] at h; rw [if_neg (by simp), if_neg (by omega), if_neg h3, if_pos h4] at h; simp at h
  have hv : opn s = ((s.take (k + n)).drop k, k + n + 4, 0) := by
    rw [opn, e]; simp only [Int.toNat_natCast]; rw [if_neg (by simp), if_neg (by omega), if_neg h3, if_neg h4]
  have hx : ((s.take (k + n)).drop k).length = n := by simp; omega
  have hs : s.take (k + n) = enc n ++ (s.take (k + n)).drop k := by
    rw [← b4]; have := List.take_append_drop k (s.take (k + n)); rw [List.take_take, Nat.min_eq_left (by omega)] at this; exact this.symm
  have hf : frame ((s.take (k + n)).drop k) = s.take (k + n + 4) := by
    unfold frame
    rw [hx, ← List.append_assoc, ← hs]
    rw [← Decidable.not_not.1 h4]
    conv => rhs; rw [← List.take_append_drop (k + n) (s.take (k + n + 4)), List.take_take]
    rw [Nat.min_eq_left (by omega)]
  rw [hv]
  refine ⟨by simp only [hx]; exact hn', ?_, by simp only; omega, hf.symm⟩
  rw [hf]
  simp; omega

end Go.Proofs.YtfkjokbhnblndaaGreatDoor

